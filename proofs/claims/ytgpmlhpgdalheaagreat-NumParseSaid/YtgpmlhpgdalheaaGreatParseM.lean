/- The reference's reader: digits, whole, power, NatRead. What the reference's 'Parse' computes; it is what the program's computes. The reference's 'magnitude' over any bytes. The reference: Add. Condition: at most 2^37 words each. The reference's 'Parse' over any bytes. The reference's 'Parse' over any bytes, whole. The walk of the law NumParse: it returns true for every string. The statement Rows.NumParseSaid: for every input the law returns true, and each argument reads behind the call as it read before. No condition. -/
import Derived.Test.YtgpmlhpgdalheaaGreatRS
import Derived.Test.YtgpmlhpgdalheaaGreatPJ
import Derived.Test.YtgpmlhpgdalheaaGreatPQ
import Derived.Deep.DeepCutAuto
import Derived.RegionTactic
import Derived.Test.YtgpmlhpgdalheaaGreatRI
import Derived.Test.YtgpmlhpgdalheaaGreatAwakeF
import Derived.Test.YtgpmlhpgdalheaaGreatRows
import Derived.ProofKit
import Derived.OpenShut
import Derived.Lib.SmallJoins
namespace Go.Proofs.YtgpmlhpgdalheaaGreat
open Go.RowKit Pl
set_option linter.unusedVariables false
set_option linter.unusedSimpArgs false

set_option maxHeartbeats 1000000 in
/-- 'digits': the number of digits at the beginning. -/
theorem rdigits_at (s : ByteArray) (n : Nat) (w : World) (hn : n ≤ s.size) (hs : s.size ≤ 9223372036854775807)
    (hd : ∀ i, (h : i < s.size) → i < n → dgt s[i] = true) (he : (h : n < s.size) → dgt s[n] = false) :
    Calls Tryz.prog 181 #[.string s] w fun e w' => e = .returned (.int .i64 n) ∧ w' = w := by
  go_enter Tryz.func181, Tryz.ntmps181
  go_wp2_with fail
  go_loopw [3] (fun i wr => ∃ k : Nat, i = .int .i64 k ∧ k ≤ n ∧ wr = w) (fun i _ => n - (intOf i).toNat)
  case atStart => exact ⟨0, rfl, by omega, rfl⟩
  case round =>
    obtain ⟨k, rfl, hk, rfl⟩ := hrel
    rcases Nat.lt_or_ge k n with hlt | hge
    · have h1 : k < s.size := by omega
      have hdd := hd k h1 hlt
      simp only [dgt, Bool.and_eq_true, decide_eq_true_eq] at hdd
      have d1 : (48 : Int) ≤ (s[k].toNat : Int) := by omega
      have d2 : (s[k].toNat : Int) ≤ 57 := by omega
      clear hdd hd he
      go_wp2_with fail
      go_round
      case rel => exact ⟨k + 1, by simp, by omega, trivial⟩
      case measure => simp [intOf]; omega
    · obtain rfl : k = n := by omega
      have hc : (∃ h : k < s.size, (s[k].toNat : Int) < 48) ∨ (∃ h : k < s.size, 57 < (s[k].toNat : Int)) ∨ ¬ k < s.size := by
        by_cases h : k < s.size
        · have := he h
          simp only [dgt, Bool.and_eq_false_iff, decide_eq_false_iff_not] at this
          by_cases h2 : s[k].toNat < 48
          · exact .inl ⟨h, by omega⟩
          · exact .inr (.inl ⟨h, by omega⟩)
        · exact .inr (.inr h)
      clear hd he
      rcases hc with ⟨h1, h2⟩ | ⟨h1, h2⟩ | h1
      · go_wp2_with fail
        go_ret
        exact ⟨rfl, rfl⟩
      · have h3 : (48 : Int) ≤ (s[k].toNat : Int) := by omega
        go_wp2_with fail
        go_ret
        exact ⟨rfl, rfl⟩
      · go_wp2_with fail
        go_ret
        exact ⟨rfl, rfl⟩
theorem rdigits_list (l : List UInt8) (w : World) (hs : l.length ≤ 9223372036854775807) :
    Calls Tryz.prog 181 #[.string (bs l)] w fun e w' => e = .returned (.int .i64 ((dgs l).length : Nat)) ∧ w' = w := by
  have e := dgs_dgr l
  refine rdigits_at (bs l) (dgs l).length w (by rw [bs_size]; exact dgs_le l) (by rw [bs_size]; exact hs) ?_ ?_
  · intro i h1 h2
    rw [bs_get]
    rw [get_left l _ e i _ h2]; exact dgs_dgt _ (List.getElem_mem h2)
  · intro h1
    rw [bs_size] at h1
    rw [bs_get]
    apply dgr_ndg l
    rw [get_right l _ e h1]
    exact List.head?_eq_getElem?.trans (List.getElem?_eq_getElem _)

/-- What 'whole' computes. -/
def whl (l : List UInt8) : Nat := if lead0 (dgs l) = true then 1 else (dgs l).length
theorem hd48_get (l : List UInt8) (h : 0 < (bs l).size) (h1 : 1 < (dgs l).length) : hd48 (dgs l) = (((bs l)[0].toNat : Int) == 48) := by
  rw [bs_get, get_left l l (dgs_dgr l) 0 (by rwa [bs_size] at h) (by omega)]
  exact lead_get _ (by omega)
set_option maxHeartbeats 1000000 in
/-- 'whole'. -/
theorem rwhole_list (l : List UInt8) (w : World) (hs : l.length ≤ 9223372036854775807) :
    Calls Tryz.prog 179 #[.string (bs l)] w fun e w' => e = .returned (.int .i64 (whl l : Nat)) ∧ w' = w := by
  have H := rdigits_list l w hs
  have hle := dgs_le l
  by_cases h1 : 1 < (dgs l).length
  · have h0 : 0 < (bs l).size := by rw [bs_size]; omega
    have t1 : decide (1 < ((dgs l).length : Int)) = true := by rw [decide_eq_true_eq]; omega
    cases hb : hd48 (dgs l) with
    | true =>
      have t2 : (((bs l)[0].toNat : Int) == 48) = true := by rw [← hd48_get l h0 h1]; exact hb
      have e : whl l = 1 := by unfold whl lead0; rw [decide_eq_true h1, hb]; rfl
      rw [e]
      generalize (dgs l).length = n at *
      clear hle hb e
      go_enter Tryz.func179, Tryz.ntmps179
      go_wp2_with fail
      refine H.mono ?_
      rintro e w1 ⟨rfl, rfl⟩
      go_wp2_with fail
      go_ret
      exact ⟨rfl, rfl⟩
    | false =>
      have t2 : (((bs l)[0].toNat : Int) == 48) = false := by rw [← hd48_get l h0 h1]; exact hb
      have e : whl l = (dgs l).length := by unfold whl lead0; rw [hb]; simp
      rw [e]
      generalize (dgs l).length = n at *
      clear hle hb e
      go_enter Tryz.func179, Tryz.ntmps179
      go_wp2_with fail
      refine H.mono ?_
      rintro e w1 ⟨rfl, rfl⟩
      go_wp2_with fail
      go_ret
      exact ⟨rfl, rfl⟩
  · have t1 : decide (1 < ((dgs l).length : Int)) = false := by rw [decide_eq_false_iff_not]; omega
    have e : whl l = (dgs l).length := by unfold whl lead0; rw [decide_eq_false h1]; simp
    rw [e]
    generalize (dgs l).length = n at *
    clear hle e h1
    go_enter Tryz.func179, Tryz.ntmps179
    go_wp2_with fail
    refine H.mono ?_
    rintro e w1 ⟨rfl, rfl⟩
    go_wp2_with fail
    go_ret
    exact ⟨rfl, rfl⟩

theorem rmul_ten (x v : Nat) (hv : v = x * 10) (A B : Option Addr) (c : Nat) (w : World) (hx : Nat32 w A x) (hy : Nat32 w B 10) (hb : ln x ≤ 35184372088832) :
    Calls Tryz.prog 103 #[.slice A (ln x) c, .slice B 1 1] w (RetNatC w v) := by
  have h := rnatMul_any x 10 A B c 1 w hx hy hb (by rw [ln_small (by omega) (by omega)]; omega)
  rw [ln_small (n := 10) (by omega) (by omega), ← hv] at h
  exact h
set_option maxHeartbeats 1000000 in
/-- 'power'. -/
theorem rpower_any (N : Nat) (w : World) (hN : N ≤ 1000000) : Calls Tryz.prog 182 #[.int .i64 (N : Nat)] w (RetNatC w (10 ^ N)) := by
  have HN := Lib.hid hN
  obtain ⟨V, hV⟩ : ∃ V, V = 10 ^ N := ⟨_, rfl⟩
  have HV : Hid (ln V ≤ 1000001 ∧ V = 10 ^ N) := Lib.hid ⟨by
    have := ln_ten (v := V) (k := N + 1) (by rw [hV]; exact Nat.pow_lt_pow_right (by omega) (by omega))
    omega, hV⟩
  rw [← hV]
  clear hV hN
  go_enter Tryz.func182, Tryz.ntmps182
  go_wp2_with fail
  have h1 := nat1_new w 45
  have hb0 : Below w.heap.size w (w.alloc (.cells #[.int .u32 1] 45)) := (Below.refl _ _).alloc (Nat.le_refl _) _
  go_loopg [3, 4] N (fun m x u wr => ∃ k : Nat, u = .int .i64 (k : Nat) ∧ Hid (k + m = N) ∧ ∃ (v : Nat) (A : Option Addr) (c : Nat), x = .slice A (ln v) c ∧ Hid (v = 10 ^ k) ∧ Nat32 wr A v ∧ Below w.heap.size w wr)
  case atStart => exact ⟨0, rfl, Lib.hid (by omega), 1, _, _, by rw [ln_one], Lib.hid (by omega), h1, hb0⟩
  case round =>
    obtain ⟨k, rfl, hk, v, A, c, rfl, hv, hA, hb⟩ := hrel
    clear h1 hb0
    have HB := Lib.hid hb
    clear hb
    have LV : Hid (ln v ≤ 35184372088832) := Lib.hid (by
      have h1 : v ≤ V := by rw [hv.out, HV.out.2]; exact Nat.pow_le_pow_right (by omega) (by have := hk.out; omega)
      exact Nat.le_trans (ln_mono h1) (Nat.le_trans HV.out.1 (by omega)))
    by_cases h9 : k < N
    · have t1 : decide ((k : Int) < (N : Int)) = true := decide_eq_true (by omega)
      go_wp2_with fail
      have hn := small_new wr 45 10 (by omega) (by omega)
      refine (rmul_ten v (v * 10) rfl A _ c _ (by exact hA.alloc _) (by exact hn) LV.out).mono ?_
      rintro e w1 ⟨A1, c1, rfl, hA1, hb1⟩
      replace HB := Lib.hid (hstep HB (unalloc hb1))
      clear hb1 hA hn
      go_wp2_with fail
      go_roundg (gk - 1)
      case measure => have := hk.out; omega
      case rel => exact ⟨k + 1, by have := hk.out; have := HN.out; congr 1; simp [wrap64]; omega, Lib.hid (by have := hk.out; omega), v * 10, A1, c1, rfl, Lib.hid (by rw [hv.out, Nat.pow_succ]), hA1, HB.out⟩
    · have t1 : decide ((k : Int) < (N : Int)) = false := decide_eq_false (by omega)
      have E : v = V := by
        have e : k = N := by have := hk.out; omega
        rw [hv.out, HV.out.2, e]
      go_wp2_with fail
      go_ret
      rw [← E]
      exact ⟨A, c, rfl, hA, HB.out⟩

set_option maxRecDepth 100000 in
set_option maxHeartbeats 4000000 in
/-- 'NatRead' of decimal digits. -/
theorem rnatRead_any (s : ByteArray) (w : World) (hs : s.size ≤ 1099511627776) (hd : ∀ i, (h : i < s.size) → dgt s[i] = true) :
    Calls Tryz.prog 180 #[.string s] w (RetNatC w (vd s.data.toList)) := by
  have HS := Lib.hid hs
  have HV : Hid (vdp s s.size = vd s.data.toList) := Lib.hid (by unfold vdp; rw [List.take_of_length_le]; simp)
  rw [← HV.out]
  have HD := Lib.hid hd
  clear hs hd HV
  go_enter Tryz.func180, Tryz.ntmps180
  go_wp2_with fail
  go_loopg [3, 4] s.size (fun m x u wr => ∃ k : Nat, u = .int .i64 (k : Nat) ∧ Hid (k + m = s.size) ∧ ∃ (v : Nat) (A : Option Addr) (c : Nat), x = .slice A (ln v) c ∧ Hid (v = vdp s k) ∧ Nat32 wr A v ∧ Below w.heap.size w wr)
  case atStart => exact ⟨0, rfl, Lib.hid (by omega), 0, none, 0, by rw [ln_zero], Lib.hid (by rw [vdp_zero]), Nat32.zero _ _, Below.refl _ _⟩
  case round =>
    obtain ⟨k, rfl, hk, v, A, c, rfl, hv, hA, hb⟩ := hrel
    have HB := Lib.hid hb
    clear hb
    by_cases h9 : k < s.size
    · have h9' : (k : Int) < (s.size : Int) := by omega
      have hdd := HD.out k h9
      simp only [dgt, Bool.and_eq_true, decide_eq_true_eq] at hdd
      have d1 : (48 : Int) ≤ (s[k].toNat : Int) := by omega
      have d2 : (s[k].toNat : Int) ≤ 57 := by omega
      have E : Hid (vdp s (k + 1) = v * 10 + (s[k].toNat - 48)) := Lib.hid (by rw [vdp_succ h9, hv.out]; omega)
      have LV : Hid (ln v ≤ 1099511627776) := Lib.hid (by
        have := ln_ten (vdp_lt HD.out (Nat.le_of_lt h9)); rw [← hv.out] at this; have := HS.out; omega)
      have LW : Hid (ln (v * 10) ≤ 35184372088832) := Lib.hid (Nat.le_trans (nat_mul_ln LV.out (b := 10) (L := 1) (by rw [ln_small (by omega) (by omega)]; omega)) (by omega))
      obtain ⟨D, hD⟩ : ∃ D, D = s[k].toNat - 48 := ⟨_, rfl⟩
      have E2 : ((s[k].toNat : Int) - 48) = (D : Int) := by omega
      rw [← hD] at E
      have HDB : Hid (D < 10) := Lib.hid (by omega)
      have EW : Hid (IntKind.u64.wrap (IntKind.u8.wrap (D : Int)) = ((D : Nat) : Int)) := Lib.hid (by have := HDB.out; simp [IntKind.wrap, IntKind.bits, IntKind.signed]; omega)
      clear hdd hD
      go_wp2_with fail
      go_region_held3 (fun w' => True) (first | with_reducible exact trivial) (first
        | (go_at_call 103; refine (rmul_ten v (v * 10) rfl A _ c _ (by first | with_reducible exact hA.alloc _ | exact hA.alloc _) (by exact small_new _ _ 10 (by omega) (by omega)) (Nat.le_trans LV.out (by omega))).mono ?_; rintro e w1 ⟨A1, c1, rfl, hA1, hb1⟩; replace HB := Lib.hid (hstep HB (by first | with_reducible exact unalloc hb1 | with_reducible exact undrew (unalloc hb1) | with_reducible exact undrewalloc hb1 | with_reducible exact unalloc (undrew hb1) | with_reducible exact undrew hb1)); clear hb1 hA)
        | (go_at_call 169; rw [EW.out]; refine (rnatOf_any D (by have := HDB.out; omega) _).mono ?_; rintro e w2 ⟨A2, c2, rfl, hA2, hb2⟩; replace hA1 := hA1.to hb2; replace HB := Lib.hid (hstep HB hb2); clear hb2)
        | (go_at_call 147; refine (rnatAdd_any (v * 10) D A1 A2 c1 c2 _ (by exact hA1) (by exact hA2) LW.out (Nat.le_trans (ln_le (k := 1) (by have := HDB.out; omega)) (by omega))).mono ?_; rintro e w3 ⟨A3, c3, rfl, hA3, hb3⟩; replace HB := Lib.hid (hstep HB hb3); clear hb3 hA1 hA2))
      all_goals (
        go_wp2_with fail
        go_roundg (gk - 1)
        case measure => have := hk.out; omega
        case rel => exact ⟨k + 1, by have := hk.out; have := HS.out; congr 1; simp [wrap64]; omega, Lib.hid (by have := hk.out; omega), v * 10 + D, A3, c3, rfl, Lib.hid E.out.symm, hA3, HB.out⟩)
    · have t1 : decide ((k : Int) < (s.size : Int)) = false := decide_eq_false (by omega)
      have e : v = vdp s s.size := by
        have := hk.out
        rw [hv.out, show k = s.size by omega]
      go_wp2_with fail
      go_ret
      rw [← e]
      exact ⟨A, c, rfl, hA, HB.out⟩
end Go.Proofs.YtgpmlhpgdalheaaGreat

namespace Go.Proofs.YtgpmlhpgdalheaaGreat
open Go.RowKit Pl
set_option linter.unusedVariables false
set_option linter.unusedSimpArgs false

/-- Behind the digits: numerator, denominator and length, n bytes being consumed. -/
def rmE (S : List UInt8) (D n : Nat) (r : List UInt8) : Nat × Nat × Nat :=
  if r.head? ≠ some 101 then (vd S, D, n)
  else if whl (sgr r.tail) = 0 ∨ 3 < whl (sgr r.tail) ∨ 400 < vd ((sgr r.tail).take (whl (sgr r.tail))) then (0, 0, 0)
  else if r.tail.head? = some 45 then (vd S, D * 10 ^ vd ((sgr r.tail).take (whl (sgr r.tail))), n + 2 + whl (sgr r.tail))
  else (vd S * 10 ^ vd ((sgr r.tail).take (whl (sgr r.tail))), D, n + 1 + whl (sgr r.tail))
/-- The reference's 'magnitude'. -/
def rmP (l : List UInt8) : Nat × Nat × Nat :=
  if whl l = 0 then (0, 0, 0)
  else if (l.drop (whl l)).head? = some 47 then
    (if whl (l.drop (whl l)).tail = 0 then (0, 0, 0) else (vd (l.take (whl l)), vd ((l.drop (whl l)).tail.take (whl (l.drop (whl l)).tail)), whl l + 1 + whl (l.drop (whl l)).tail))
  else if (l.drop (whl l)).head? = some 46 then
    (if (dgs (l.drop (whl l)).tail).length = 0 then (0, 0, 0) else rmE (l.take (whl l) ++ dgs (l.drop (whl l)).tail) (10 ^ (dgs (l.drop (whl l)).tail).length) (whl l + 1 + (dgs (l.drop (whl l)).tail).length) (dgr (l.drop (whl l)).tail))
  else rmE (l.take (whl l)) 1 (whl l) (l.drop (whl l))

theorem dgs_drop (l : List UInt8) : l.drop (dgs l).length = dgr l := by
  conv => lhs; rw [← dgs_dgr l]
  rw [show (dgs (dgs l ++ dgr l)) = dgs l by rw [dgs_dgr]]; exact List.drop_left
theorem dgs_take (l : List UInt8) : l.take (dgs l).length = dgs l := by
  conv => lhs; rw [← dgs_dgr l]
  rw [show (dgs (dgs l ++ dgr l)) = dgs l by rw [dgs_dgr]]; exact List.take_left
/-- A byte that is a digit is next. -/
def digNext (r : List UInt8) : Prop := ∃ c t, r = c :: t ∧ dgt c = true
theorem whl_cases (l : List UInt8) : (wb false (dgs l) = false ∧ whl l = (dgs l).length ∧ 0 < whl l ∧ l.take (whl l) = dgs l ∧ l.drop (whl l) = dgr l) ∨ (wb false (dgs l) = true ∧ whl l = 0) ∨ (wb false (dgs l) = true ∧ whl l = 1 ∧ vd (l.take 1) = 0 ∧ 1 ≤ l.length ∧ digNext (l.drop 1)) := by
  by_cases h0 : dgs l = []
  · right; left
    refine ⟨by rw [h0]; rfl, ?_⟩
    unfold whl; rw [h0]; rfl
  · have hp : 0 < (dgs l).length := List.length_pos_iff.2 h0
    have he : (dgs l).isEmpty = false := by cases h : dgs l with | nil => exact absurd h h0 | cons a b => rfl
    cases hl : lead0 (dgs l) with
    | false =>
      left
      have e : whl l = (dgs l).length := by unfold whl; rw [hl]; rfl
      refine ⟨by unfold wb; rw [hl, he]; rfl, e, by omega, ?_, ?_⟩
      · rw [e, dgs_take]
      · rw [e, dgs_drop]
    | true =>
      right; right
      have e : whl l = 1 := by unfold whl; rw [hl]; rfl
      refine ⟨by unfold wb; rw [hl]; simp, e, ?_, ?_, ?_⟩
      all_goals
        have h2 := dgs_dgr l
        have h3 := @dgs_dgt l
        unfold lead0 at hl
        simp only [Bool.and_eq_true, decide_eq_true_eq] at hl
        generalize dgs l = s at *
        match s, hl with
        | c :: d :: t, hl => ?_
      · rw [← h2]
        have : c.toNat = 48 := by simpa [hd48] using hl.2
        simp [vd, this]
      · rw [← h2]; simp
      · exact ⟨d, t ++ dgr l, (congrArg (List.drop 1) h2.symm).trans rfl, h3 d (by simp)⟩
theorem wb_or (b : Bool) (s : List UInt8) : wb b s = (b || wb false s) := by unfold wb; cases b <;> simp
theorem sgr_drop (r : List UInt8) (c : UInt8) (t : List UInt8) (h : r = c :: t) : (t.head? = some 45 → r.drop 2 = sgr r.tail) ∧ (t.head? ≠ some 45 → r.drop 1 = sgr r.tail) := by
  subst h
  constructor
  · intro h; cases t with
    | nil => simp at h
    | cons d t => unfold sgr; simp at h; simp [h]
  · intro h; unfold sgr; simp at h; simp [h]
theorem dgt_ne {c : UInt8} (h : dgt c = true) : c ≠ 47 ∧ c ≠ 46 ∧ c ≠ 101 ∧ c ≠ 105 ∧ c ≠ 45 ∧ c ≠ 43 := by
  refine ⟨?_, ?_, ?_, ?_, ?_, ?_⟩ <;> (rintro rfl; simp [dgt] at h)
theorem g400_three (s : List UInt8) (h : s.length = 3) (hd : ∀ c ∈ s, dgt c = true) : g400 s = decide (400 < vd s) := by
  match s, h with
  | [a, b, c], _ =>
    have ha := hd a (by simp)
    have hb := hd b (by simp)
    have hc := hd c (by simp)
    simp only [dgt, Bool.and_eq_true, decide_eq_true_eq] at ha hb hc
    have e : vd [a, b, c] = 10 * (10 * (10 * 0 + (a.toNat - 48)) + (b.toNat - 48)) + (c.toNat - 48) := rfl
    rw [Bool.eq_iff_iff, e, decide_eq_true_eq]
    simp only [g400, Op.bytesLess, List.foldl_cons, List.foldl_nil, Bool.or_false, Bool.and_false, decide_eq_true_eq, Bool.not_eq_true', Bool.or_eq_false_iff, beq_eq_false_iff_ne, decide_eq_false_iff_not, UInt8.lt_iff_toNat_lt, Bool.and_eq_false_iff, ne_eq, List.cons.injEq, not_and, and_true, beq_iff_eq, ← UInt8.toNat_inj]
    simp only [show (52 : UInt8).toNat = 52 from rfl, show (48 : UInt8).toNat = 48 from rfl]
    omega
theorem vd_few (s : List UInt8) (h : s.length < 3) (hd : ∀ c ∈ s, dgt c = true) : vd s < 100 := by
  have h1 := vd_lt (t := bs s) (fun i h => by rw [bs_get]; exact hd _ (List.getElem_mem _))
  rw [bs_list, bs_size] at h1
  exact Nat.lt_of_lt_of_le h1 (Nat.le_trans (Nat.pow_le_pow_right (by omega) (show s.length ≤ 2 by omega)) (by omega))

/-- What both magnitudes say, side by side. -/
def AG (l : List UInt8) (p : (Nat × Nat) × Bool × List UInt8) (q : Nat × Nat × Nat) : Prop :=
  (p.2.1 = false ∧ q.1 = p.1.1 ∧ q.2.1 = p.1.2 ∧ 0 < q.2.2 ∧ q.2.2 ≤ l.length ∧ l.drop q.2.2 = p.2.2) ∨
  (p.2.1 = true ∧ (q.2.2 = 0 ∨ (q.2.2 ≤ l.length ∧ digNext (l.drop q.2.2))))
theorem drop_more {l r s : List UInt8} {n k : Nat} (h : l.drop n = r) (h2 : r.drop k = s) : l.drop (n + k) = s := by rw [← h2, ← h, List.drop_drop]
theorem drop_len {l r : List UInt8} {n : Nat} (h : l.drop n = r) (h0 : r ≠ []) : n < l.length := by
  rcases Nat.lt_or_ge n l.length with h1 | h1
  · exact h1
  · rw [List.drop_eq_nil_of_le h1] at h; exact absurd h.symm h0
theorem rmE_e (S : List UInt8) (D n : Nat) (t : List UInt8) : rmE S D n (101 :: t) = if whl (sgr t) = 0 ∨ 3 < whl (sgr t) ∨ 400 < vd ((sgr t).take (whl (sgr t))) then (0, 0, 0)
  else if t.head? = some 45 then (vd S, D * 10 ^ vd ((sgr t).take (whl (sgr t))), n + 2 + whl (sgr t))
  else (vd S * 10 ^ vd ((sgr t).take (whl (sgr t))), D, n + 1 + whl (sgr t)) := by
  unfold rmE; rw [if_neg (by simp)]; rfl
theorem mgE_e (S : List UInt8) (D : Nat) (b : Bool) (t : List UInt8) : mgE S D b (101 :: t) = if wb b (dgs (sgr t)) = true ∨ 3 < (dgs (sgr t)).length ∨ ((dgs (sgr t)).length = 3 ∧ g400 (dgs (sgr t)) = true) then ((0, 1), true, dgr (sgr t))
  else if t.head? = some 45 then ((vd S, D * 10 ^ vd (dgs (sgr t))), false, dgr (sgr t))
  else ((vd S * 10 ^ vd (dgs (sgr t)), D), false, dgr (sgr t)) := rfl
theorem agE (l S : List UInt8) (D n : Nat) (r : List UInt8) (hn : 0 < n) (hr : l.drop n = r) (he : r.head? = some 101) : AG l (mgE S D false r) (rmE S D n r) := by
  obtain ⟨t, rfl⟩ : ∃ t, r = 101 :: t := by
    cases r with
    | nil => simp at he
    | cons c t => simp at he; exact ⟨t, by rw [he]⟩
  have hnl := drop_len hr (by simp)
  have hs := sgr_drop (101 :: t) 101 t rfl
  have h3 : ∃ m, n < m ∧ l.drop m = sgr t ∧ m ≤ l.length ∧ (t.head? = some 45 → m = n + 2) ∧ (t.head? ≠ some 45 → m = n + 1) := by
    by_cases h : t.head? = some 45
    · refine ⟨n + 2, by omega, drop_more hr (hs.1 h), ?_, fun _ => rfl, fun k => absurd h k⟩
      have : (101 :: t).drop 1 ≠ [] := by cases t with | nil => simp at h | cons d t => simp
      have := drop_len (drop_more hr rfl) this
      omega
    · exact ⟨n + 1, by omega, drop_more hr (hs.2 h), by omega, fun k => absurd k h, fun _ => rfl⟩
  obtain ⟨m, m1, m2, m3, m4, m5⟩ := h3
  have hk : whl (sgr t) ≤ (sgr t).length := by
    unfold whl; split
    · rename_i h; have := dgs_le (sgr t)
      unfold lead0 at h; simp at h; omega
    · exact dgs_le _
  have hml : (sgr t).length = l.length - m := by rw [← m2, List.length_drop]
  rw [rmE_e, mgE_e]
  rcases whl_cases (sgr t) with ⟨c1, c2, c3, c4, c5⟩ | ⟨c1, c2⟩ | ⟨c1, c2, c3, c4, c5⟩
  · rw [c4, c1]
    have hb : (whl (sgr t) = 0 ∨ 3 < whl (sgr t) ∨ 400 < vd (dgs (sgr t))) ↔ ((false : Bool) = true ∨ 3 < (dgs (sgr t)).length ∨ ((dgs (sgr t)).length = 3 ∧ g400 (dgs (sgr t)) = true)) := by
      rw [c2]
      rcases Nat.lt_trichotomy (dgs (sgr t)).length 3 with h | h | h
      · have := vd_few _ h dgs_dgt
        simp only [Bool.false_eq_true, false_or]
        omega
      · rw [g400_three _ h dgs_dgt, decide_eq_true_eq]
        simp only [Bool.false_eq_true, false_or]
        omega
      · simp only [Bool.false_eq_true, false_or]
        omega
    by_cases h : whl (sgr t) = 0 ∨ 3 < whl (sgr t) ∨ 400 < vd (dgs (sgr t))
    · rw [if_pos h, if_pos (hb.1 h)]; exact .inr ⟨rfl, .inl rfl⟩
    · rw [if_neg h, if_neg (fun k => h (hb.2 k))]
      by_cases hh : t.head? = some 45
      · rw [if_pos hh, if_pos hh]
        have := m4 hh; subst this
        exact .inl ⟨rfl, rfl, rfl, by show 0 < n + 2 + _; omega, by show n + 2 + whl (sgr t) ≤ _; omega, drop_more m2 c5⟩
      · rw [if_neg hh, if_neg hh]
        have := m5 hh; subst this
        exact .inl ⟨rfl, rfl, rfl, by show 0 < n + 1 + _; omega, by show n + 1 + whl (sgr t) ≤ _; omega, drop_more m2 c5⟩
  · rw [if_pos (.inl c1), if_pos (.inl c2)]; exact .inr ⟨rfl, .inl rfl⟩
  · rw [if_pos (.inl c1), c2, c3, if_neg (by omega)]
    by_cases hh : t.head? = some 45
    · rw [if_pos hh]
      have := m4 hh; subst this
      exact .inr ⟨rfl, .inr ⟨by show n + 2 + 1 ≤ _; omega, by rw [show l.drop (n + 2 + 1) = (sgr t).drop 1 from drop_more m2 rfl]; exact c5⟩⟩
    · rw [if_neg hh]
      have := m5 hh; subst this
      exact .inr ⟨rfl, .inr ⟨by show n + 1 + 1 ≤ _; omega, by rw [show l.drop (n + 1 + 1) = (sgr t).drop 1 from drop_more m2 rfl]; exact c5⟩⟩
theorem mgE_true (S : List UInt8) (D : Nat) (r : List UInt8) : (mgE S D true r).2.1 = true := by
  unfold mgE; rw [if_pos (.inl (by rw [wb_or]; rfl))]
/-- A mark ahead stays. -/
theorem mgP_true (l : List UInt8) : (mgP true l).2.1 = true := by
  have h1 : ∀ s, wb true s = true := fun s => by rw [wb_or]; rfl
  unfold mgP
  simp only [h1]
  split
  · rfl
  · split
    · split
      · simp only [Bool.true_or]; exact mgE_true _ _ _
      · rfl
    · split
      · exact mgE_true _ _ _
      · rfl
theorem ag (l : List UInt8) : AG l (mgP false l) (rmP l) := by
  have hk : whl l ≤ l.length := by
    unfold whl; split
    · rename_i h; have := dgs_le l
      unfold lead0 at h; simp at h; omega
    · exact dgs_le _
  rcases whl_cases l with ⟨c1, c2, c3, c4, c5⟩ | ⟨c1, c2⟩ | ⟨c1, c2, c3, c4, c5⟩
  · unfold rmP mgP
    rw [if_neg (show ¬ whl l = 0 by omega), c4, c5, c1]
    by_cases h1 : (dgr l).head? = some 47
    · rw [if_pos h1, if_pos h1]
      obtain ⟨t, ht⟩ : ∃ t, dgr l = 47 :: t := by
        cases h : dgr l with
        | nil => rw [h] at h1; simp at h1
        | cons c t => rw [h] at h1; simp at h1; exact ⟨t, by rw [h1]⟩
      have ht2 : (dgr l).tail = t := by rw [ht]; rfl
      rw [ht] at c5
      rw [ht2]
      have e1 : l.drop (whl l + 1) = t := drop_more c5 rfl
      have hl1 := drop_len c5 (by simp)
      have hlt : t.length = l.length - (whl l + 1) := by rw [← e1, List.length_drop]
      rcases whl_cases t with ⟨d1, d2, d3, d4, d5⟩ | ⟨d1, d2⟩ | ⟨d1, d2, d3, d4, d5⟩
      · rw [if_neg (show ¬ whl t = 0 by omega), d4, d1]
        exact .inl ⟨rfl, rfl, rfl, by show 0 < whl l + 1 + whl t; omega, by show whl l + 1 + whl t ≤ _; have := dgs_le t; omega, drop_more e1 d5⟩
      · rw [if_pos d2, d1]; exact .inr ⟨rfl, .inl rfl⟩
      · rw [if_neg (show ¬ whl t = 0 by omega), d1]
        exact .inr ⟨rfl, .inr ⟨by show whl l + 1 + whl t ≤ _; omega, by show digNext (l.drop (whl l + 1 + whl t)); rw [d2, drop_more e1 rfl]; exact d5⟩⟩
    · rw [if_neg h1, if_neg h1]
      by_cases h2 : (dgr l).head? = some 46
      · rw [if_pos h2, if_pos h2]
        obtain ⟨t, ht⟩ : ∃ t, dgr l = 46 :: t := by
          cases h : dgr l with
          | nil => rw [h] at h2; simp at h2
          | cons c t => rw [h] at h2; simp at h2; exact ⟨t, by rw [h2]⟩
        have ht2 : (dgr l).tail = t := by rw [ht]; rfl
        rw [ht] at c5
        rw [ht2]
        have e1 : l.drop (whl l + 1) = t := drop_more c5 rfl
        have hl1 := drop_len c5 (by simp)
        have hlt : t.length = l.length - (whl l + 1) := by rw [← e1, List.length_drop]
        have e2 : l.drop (whl l + 1 + (dgs t).length) = dgr t := drop_more e1 (dgs_drop t)
        by_cases h3 : (dgs t).length = 0
        · rw [if_pos h3]
          have h4 : dgs t = [] := List.length_eq_zero_iff.1 h3
          rw [h4]
          refine .inr ⟨?_, .inl rfl⟩
          split
          · simp only [List.isEmpty_nil, Bool.false_or]; exact mgE_true _ _ _
          · rfl
        · rw [if_neg h3]
          have h4 : (dgs t).isEmpty = false := by cases h : dgs t with | nil => rw [h] at h3; simp at h3 | cons a b => rfl
          rw [h4]
          by_cases h5 : (dgr t).head? = some 101
          · rw [if_pos h5]
            exact agE l _ _ _ _ (by omega) e2 h5
          · rw [if_neg h5]
            unfold rmE; rw [if_pos h5]
            exact .inl ⟨rfl, rfl, rfl, by show 0 < whl l + 1 + _; omega, by show whl l + 1 + (dgs t).length ≤ _; have := dgs_le t; omega, e2⟩
      · rw [if_neg h2, if_neg h2]
        by_cases h5 : (dgr l).head? = some 101
        · rw [if_pos h5]
          exact agE l _ _ _ _ (by omega) c5 h5
        · rw [if_neg h5]
          unfold rmE; rw [if_pos h5]
          exact .inl ⟨rfl, rfl, rfl, c3, hk, c5⟩
  · refine .inr ⟨?_, .inl ?_⟩
    · unfold mgP
      rw [c1]
      split
      · rw [wb_or]; rfl
      · split
        · split
          · simp only [Bool.true_or]; exact mgE_true _ _ _
          · rfl
        · split
          · exact mgE_true _ _ _
          · rfl
    · unfold rmP; rw [if_pos c2]
  · refine .inr ⟨?_, .inr ?_⟩
    · unfold mgP
      rw [c1]
      split
      · rw [wb_or]; rfl
      · split
        · split
          · simp only [Bool.true_or]; exact mgE_true _ _ _
          · rfl
        · split
          · exact mgE_true _ _ _
          · rfl
    · have e : rmP l = (vd (l.take 1), 1, 1) := by
        obtain ⟨c, t, hc, hd⟩ := c5
        have hn := dgt_ne hd
        unfold rmP
        rw [c2, if_neg (show ¬ (1 : Nat) = 0 by omega), hc, if_neg (by simpa using hn.1), if_neg (by simpa using hn.2.1)]
        unfold rmE
        rw [if_pos (by simpa using hn.2.2.1)]
      rw [e]
      exact ⟨c4, c5⟩

/-- What the reference's 'Parse' does behind the first magnitude. -/
def parseRB (neg : Bool) (n d : Nat) (r : List UInt8) : Int × Cx :=
  if r = [] then (if d = 0 then (3, Cx.zero) else (0, fr (zi neg n) 0 d))
  else if r = [105] then (if d = 0 then (3, Cx.zero) else (0, fr 0 (zi neg n) d))
  else if r.head? = some 45 ∨ r.head? = some 43 then
    (if (rmP r.tail).2.2 = 0 ∨ r.tail.drop (rmP r.tail).2.2 ≠ [105] then (2, Cx.zero)
     else if d = 0 ∨ (rmP r.tail).2.1 = 0 then (3, Cx.zero)
     else (0, (fr (zi neg n) 0 d).add (fr 0 (zi (decide (r.head? = some 45)) (rmP r.tail).1) (rmP r.tail).2.1)))
  else (2, Cx.zero)
/-- What the reference's 'Parse' computes. -/
def parseR (l : List UInt8) : Int × Cx :=
  if 4096 < l.length then (4, Cx.zero)
  else if (rmP (sgr l)).2.2 = 0 then (2, Cx.zero)
  else parseRB (decide (l.head? = some 45)) (rmP (sgr l)).1 (rmP (sgr l)).2.1 ((sgr l).drop (rmP (sgr l)).2.2)
theorem parseRB_sign (neg : Bool) (n d : Nat) (c : UInt8) (t : List UInt8) (hi : ¬ c = 105) (hg : c = 45 ∨ c = 43) : parseRB neg n d (c :: t) =
    if (rmP t).2.2 = 0 ∨ t.drop (rmP t).2.2 ≠ [105] then (2, Cx.zero)
     else if d = 0 ∨ (rmP t).2.1 = 0 then (3, Cx.zero)
     else (0, (fr (zi neg n) 0 d).add (fr 0 (zi (decide (c = 45)) (rmP t).1) (rmP t).2.1)) := by
  unfold parseRB
  rw [if_neg (show ¬ c :: t = [] by simp), if_neg (show ¬ c :: t = [105] by simp [hi]), if_pos (show (c :: t).head? = some 45 ∨ (c :: t).head? = some 43 by simpa using hg)]
  simp only [List.head?_cons, List.tail_cons, Option.some.injEq]
theorem parseB_sign (neg : Bool) (n d : Nat) (b : Bool) (c : UInt8) (t : List UInt8) (hi : ¬ c = 105) (hg : c = 45 ∨ c = 43) : parseB neg n d b (c :: t) =
    if (mgP b t).2.2.head? ≠ some 105 ∨ (mgP b t).2.1 = true ∨ (mgP b t).2.2.tail ≠ [] then (2, Cx.zero)
     else if d = 0 ∨ (mgP b t).1.2 = 0 then (3, Cx.zero)
     else (0, fr (zi neg n * ((mgP b t).1.2 : Int)) (zi (decide (c = 45)) (mgP b t).1.1 * (d : Int)) (d * (mgP b t).1.2)) := by
  unfold parseB
  rw [if_neg (show ¬ (c :: t).head? = some 105 by simpa using hi), if_neg (show ¬ c :: t = [] by simp), if_pos (show (c :: t).head? = some 45 ∨ (c :: t).head? = some 43 by simpa using hg)]
  simp only [List.head?_cons, List.tail_cons, Option.some.injEq]
theorem parseB_bad (neg : Bool) (n d : Nat) (rl : List UInt8) : parseB neg n d true rl = (2, Cx.zero) := by
  unfold parseB
  rw [mgP_true]
  by_cases h1 : rl.head? = some 105
  · rw [if_pos h1, if_pos (Or.inl rfl)]
  · rw [if_neg h1]
    by_cases h2 : rl = []
    · rw [if_pos h2, if_pos rfl]
    · rw [if_neg h2]
      by_cases h3 : rl.head? = some 45 ∨ rl.head? = some 43
      · rw [if_pos h3, if_pos (Or.inr (Or.inl rfl))]
      · rw [if_neg h3]
theorem fr_two (a b : Int) (d e : Nat) (hd : d ≠ 0) (he : e ≠ 0) : (fr a 0 d).add (fr 0 b e) = fr (a * (e : Int)) (b * (d : Int)) (d * e) := by
  have h1 := rat_ne (Nat.pos_of_ne_zero hd)
  have h2 := rat_ne (Nat.pos_of_ne_zero he)
  unfold fr Cx.add
  rw [Rat.intCast_mul, Rat.intCast_mul, Rat.natCast_mul, Rat.intCast_natCast, Rat.intCast_natCast]
  apply Cx.ext' <;> simp only [Rat.intCast_zero] <;> grind
theorem parseRB_good (neg : Bool) (n d : Nat) (rl : List UInt8) : parseRB neg n d rl = parseB neg n d false rl := by
  cases rl with
  | nil => simp [parseRB, parseB]
  | cons c t =>
    by_cases hi : c = 105
    · subst hi
      cases t with
      | nil => simp [parseRB, parseB]
      | cons d t => simp [parseRB, parseB]
    · by_cases hg : c = 45 ∨ c = 43
      · rw [parseRB_sign _ _ _ _ _ hi hg, parseB_sign _ _ _ _ _ _ hi hg]
        rcases ag t with ⟨p1, q1, q2, q3, q4, q5⟩ | ⟨p1, q⟩
        · rw [p1, q1, q2, q5]
          generalize (mgP false t).2.2 = s
          have e : ((rmP t).2.2 = 0 ∨ s ≠ [105]) ↔ (s.head? ≠ some 105 ∨ false = true ∨ s.tail ≠ []) := by
            constructor
            · rintro (h | h)
              · omega
              · cases s with
                | nil => left; simp
                | cons a s =>
                  by_cases ha : a = 105
                  · right; right; subst ha; simpa using h
                  · left; simpa using ha
            · rintro (h | h | h)
              · right; rintro rfl; simp at h
              · simp at h
              · right; rintro rfl; simp at h
          by_cases h : (rmP t).2.2 = 0 ∨ s ≠ [105]
          · rw [if_pos h, if_pos (e.1 h)]
          · rw [if_neg h, if_neg (fun k => h (e.2 k))]
            by_cases h3 : d = 0 ∨ (mgP false t).1.2 = 0
            · rw [if_pos h3, if_pos h3]
            · rw [if_neg h3, if_neg h3, fr_two _ _ _ _ (fun h => h3 (.inl h)) (fun h => h3 (.inr h))]
        · have e1 : (rmP t).2.2 = 0 ∨ t.drop (rmP t).2.2 ≠ [105] := by
            rcases q with q | ⟨_, c3, t3, h3, h4⟩
            · exact .inl q
            · right; rw [h3]; have := dgt_ne h4; simp [this.2.2.2.1]
          rw [if_pos e1, if_pos (Or.inr (Or.inl p1))]
      · have e1 : parseRB neg n d (c :: t) = (2, Cx.zero) := by
          unfold parseRB
          rw [if_neg (show ¬ c :: t = [] by simp), if_neg (show ¬ c :: t = [105] by simp [hi]), if_neg (show ¬ ((c :: t).head? = some 45 ∨ (c :: t).head? = some 43) by simpa using hg)]
        have e2 : parseB neg n d false (c :: t) = (2, Cx.zero) := by
          unfold parseB
          rw [if_neg (show ¬ (c :: t).head? = some 105 by simpa using hi), if_neg (show ¬ c :: t = [] by simp), if_neg (show ¬ ((c :: t).head? = some 45 ∨ (c :: t).head? = some 43) by simpa using hg)]
        rw [e1, e2]
theorem parse_same (l : List UInt8) : parseR l = parseP l := by
  unfold parseR
  by_cases hl : 4096 < l.length
  · unfold parseP; rw [if_pos hl, if_pos hl]
  · rw [if_neg hl, parseP_def hl]
    rcases ag (sgr l) with ⟨p1, q1, q2, q3, q4, q5⟩ | ⟨p1, q⟩
    · rw [if_neg (show ¬ (rmP (sgr l)).2.2 = 0 by omega), q1, q2, q5, p1]
      exact parseRB_good _ _ _ _
    · rw [p1, parseB_bad]
      rcases q with q | ⟨_, c, t, h3, h4⟩
      · rw [if_pos q]
      · have hn := dgt_ne h4
        by_cases h : (rmP (sgr l)).2.2 = 0
        · rw [if_pos h]
        · rw [if_neg h, h3]
          unfold parseRB
          rw [if_neg (show ¬ c :: t = [] by simp), if_neg (show ¬ c :: t = [105] by simp [hn.2.2.2.1]), if_neg (show ¬ ((c :: t).head? = some 45 ∨ (c :: t).head? = some 43) by simp [hn.2.2.2.2.1, hn.2.2.2.2.2])]
end Go.Proofs.YtgpmlhpgdalheaaGreat

namespace Go.Proofs.YtgpmlhpgdalheaaGreat
open Go.RowKit Pl
set_option linter.unusedVariables false
set_option linter.unusedSimpArgs false

/-- A call of the reference hands back numerator, denominator and length. -/
def RetMagC (w : World) (p : Nat × Nat × Nat) (e : Ending) (w' : World) : Prop := ∃ A cA B cB, e = .returned (.tuple #[.slice A (ln p.1) cA, .slice B (ln p.2.1) cB, .int .i64 (p.2.2 : Nat)]) ∧ Nat32 w' A p.1 ∧ Nat32 w' B p.2.1 ∧ Below w.heap.size w w'
theorem retMagC_zero {w w' : World} (h : Below w.heap.size w w') : RetMagC w (0, 0, 0) (.returned (.tuple #[.slice none 0 0, .slice none 0 0, .int .i64 0])) w' :=
  ⟨none, 0, none, 0, by rw [ln_zero]; rfl, Nat32.zero _ _, Nat32.zero _ _, h⟩
theorem rnatRead_list (s : List UInt8) (w : World) (hd : ∀ c ∈ s, dgt c = true) (hs : s.length ≤ 1099511627776) :
    Calls Tryz.prog 180 #[.string (bs s)] w (RetNatC w (vd s)) := by
  have := rnatRead_any (bs s) w (by rw [bs_size]; exact hs) (fun i h => by rw [bs_get]; exact hd _ (List.getElem_mem _))
  rwa [bs_list] at this
theorem bs_sub (l : List UInt8) (i j : Nat) : (bs l).extract i j = bs ((l.take j).drop i) := by
  apply bs_ext
  simp [bs, List.extract_eq_take_drop, List.drop_take]
theorem bs_pre (l : List UInt8) (j : Nat) : (bs l).extract 0 j = bs (l.take j) := by rw [bs_sub, List.drop_zero]
theorem bs_suf (l : List UInt8) (i : Nat) : (bs l).extract i (bs l).size = bs (l.drop i) := by
  rw [bs_sub, bs_size, List.take_length]
theorem head_at {l r : List UInt8} {n : Nat} (h : l.drop n = r) (k : n < (bs l).size) (c : UInt8) : (((bs l)[n].toNat : Int) == (c.toNat : Int)) = decide (r.head? = some c) := by
  rw [bs_size] at k
  rw [bs_get, ← h]
  rw [List.head?_drop, List.getElem?_eq_getElem k]
  rw [Bool.eq_iff_iff, beq_iff_eq, decide_eq_true_eq, Option.some.injEq, ← UInt8.toNat_inj]; omega
theorem head_out {l r : List UInt8} {n : Nat} (h : l.drop n = r) (k : ¬ n < (bs l).size) (c : UInt8) : decide (r.head? = some c) = false := by
  rw [bs_size] at k
  rw [← h, List.drop_eq_nil_of_le (by omega)]; rfl
theorem whl_le (l : List UInt8) : whl l ≤ l.length := by
  have := dgs_le l
  unfold whl; split
  · rename_i h; unfold lead0 at h; simp at h; omega
  · exact this
theorem whl_dgt (l : List UInt8) : ∀ c ∈ l.take (whl l), dgt c = true := by
  have h : whl l ≤ (dgs l).length := by
    unfold whl; split
    · rename_i h; unfold lead0 at h; simp at h; omega
    · exact Nat.le_refl _
  intro c hc
  rw [← dgs_dgr l, show whl (dgs l ++ dgr l) = whl l by rw [dgs_dgr], List.take_append_of_le_length h] at hc
  exact dgs_dgt _ (List.mem_of_mem_take hc)
theorem vdp_mono (t : ByteArray) (j k : Nat) (h : j ≤ k) : vdp t j ≤ vdp t k := by
  unfold vdp
  have e : t.data.toList.take k = t.data.toList.take j ++ (t.data.toList.take k).drop j := by
    conv => lhs; rw [← List.take_append_drop j (t.data.toList.take k)]
    rw [List.take_take, Nat.min_eq_left h]
  rw [e, vd_app]
  have := Nat.le_mul_of_pos_right (vd (t.data.toList.take j)) (show 0 < 10 ^ ((t.data.toList.take k).drop j).length from Nat.pow_pos (by omega))
  omega
theorem wrap_two {a b : Nat} (h : a + b ≤ 4000000) : wrap64 ((a : Int) + b) = ((a + b : Nat) : Int) := by simp [wrap64]; omega
theorem wrap_one {a : Nat} (h : a ≤ 4000000) : wrap64 ((a : Int) + 1) = ((a + 1 : Nat) : Int) := by simp [wrap64]; omega
theorem wrapi_two {a b : Nat} (h : a + b ≤ 4000000) : IntKind.i64.wrap ((a : Int) + b) = ((a + b : Nat) : Int) := by simp [IntKind.wrap, IntKind.bits, IntKind.signed]; omega
theorem wrapi_one {a : Nat} (h : a ≤ 4000000) : IntKind.i64.wrap ((a : Int) + 1) = ((a + 1 : Nat) : Int) := by simp [IntKind.wrap, IntKind.bits, IntKind.signed]; omega
theorem beq0 {n : Nat} (h : n = 0) : ((n : Int) == 0) = true := by rw [h]; rfl
theorem bne0 {n : Nat} (h : n ≠ 0) : ((n : Int) == 0) = false := by rw [beq_eq_false_iff_ne]; omega

set_option maxRecDepth 100000 in
set_option maxHeartbeats 4000000 in
theorem rmag_none (l : List UInt8) (w : World) (hs : l.length ≤ 1000000) (h0 : whl l = 0) :
    Calls Tryz.prog 143 #[.string (bs l)] w (RetMagC w (0, 0, 0)) := by
  have H0 := Lib.hid h0
  go_enter Tryz.func143, Tryz.ntmps143
  go_wp2_with fail
  refine (rwhole_list l _ (by omega)).mono ?_
  rintro e w1 ⟨rfl, rfl⟩
  rw [H0.out]
  go_wp2_with fail
  exact bodyPost_ret (v := .tuple #[.slice none 0 0, .slice none 0 0, .int .i64 0]) (by simp [results, Tryz.results143, go_sem]) rfl (retMagC_zero (Below.refl _ _))
set_option maxRecDepth 100000 in
set_option maxHeartbeats 4000000 in
theorem rmag_slash (l r : List UInt8) (w : World) (hs : l.length ≤ 1000000) (n k : Nat) (hn : whl l = n) (h0 : n ≠ 0) (hr : l.drop n = 47 :: r) (hk : whl r = k) :
    Calls Tryz.prog 143 #[.string (bs l)] w (RetMagC w (if k = 0 then (0, 0, 0) else (vd (l.take n), vd (r.take k), n + 1 + k))) := by
  have HS := Lib.hid hs
  have HN := Lib.hid hn
  have HK := Lib.hid hk
  have n0 := bne0 h0
  have hl := drop_len hr (by simp)
  have h1 : n < (bs l).size := by rw [bs_size]; omega
  have t1 : (((bs l)[n].toNat : Int) == 47) = true := (head_at hr h1 47).trans (by simp)
  have e1 : l.drop (n + 1) = r := drop_more hr rfl
  have s1 : n + 1 ≤ (bs l).size := by omega
  have HR := Lib.hid e1
  have hrl : r.length = l.length - (n + 1) := by rw [← e1, List.length_drop]
  have hkl : k ≤ r.length := by rw [← hk]; exact whl_le r
  have W1 : wrap64 ((n : Int) + 1) = ((n + 1 : Nat) : Int) := by simp [wrap64]; omega
  have W2 : wrap64 (((n + 1 : Nat) : Int) + k) = ((n + 1 + k : Nat) : Int) := by simp [wrap64]; omega
  have s2 : n + 1 + k ≤ (bs l).size := by rw [bs_size]; omega
  have s3 : n + 1 ≤ n + 1 + k := by omega
  have HD1 : Hid (∀ c ∈ l.take n, dgt c = true) := Lib.hid (by rw [← hn]; exact whl_dgt l)
  have HD2 : Hid (∀ c ∈ r.take k, dgt c = true) := Lib.hid (by rw [← hk]; exact whl_dgt r)
  have HX : Hid ((bs l).extract (n + 1) (n + 1 + k) = bs (r.take k)) := Lib.hid (by rw [bs_sub, ← e1, List.drop_take]; simp)
  have LL : Hid ((l.take n).length ≤ 1000000 ∧ (r.take k).length ≤ 1000000 ∧ r.length ≤ 1000000) := Lib.hid (by simp; omega)
  obtain ⟨m, hm⟩ : ∃ m, m = n + 1 + k := ⟨_, rfl⟩
  have HM := Lib.hid hm
  rw [← hm] at W2 s2 s3 HX ⊢
  obtain ⟨n1, hn1⟩ : ∃ n1, n1 = n + 1 := ⟨_, rfl⟩
  have HN1 := Lib.hid hn1
  rw [← hn1] at W1 W2 s1 s3 HR HX
  clear hs hn hk hr hl e1 hrl hkl hm hn1
  by_cases hk0 : k = 0
  · rw [if_pos hk0]
    have k0 := beq0 hk0
    clear hk0
    go_enter Tryz.func143, Tryz.ntmps143
    go_wp2_with fail
    refine (rwhole_list l _ (by have := HS.out; omega)).mono ?_
    rintro e w1 ⟨rfl, rfl⟩
    rw [HN.out]
    go_wp2_with fail
    rw [bs_pre]
    refine (rnatRead_list _ _ HD1.out (by have := LL.out.1; omega)).mono ?_
    rintro e w2 ⟨A1, c1, rfl, hA1, hb1⟩
    go_wp2_with fail
    rw [bs_suf, HR.out]
    refine (rwhole_list r _ (by have := LL.out.2.2; omega)).mono ?_
    rintro e w3 ⟨rfl, rfl⟩
    rw [HK.out]
    go_wp2_with fail
    exact bodyPost_ret (v := .tuple #[.slice none 0 0, .slice none 0 0, .int .i64 0]) (by simp [results, Tryz.results143, go_sem]) rfl (retMagC_zero (hb1.alloc hb1.size _))
  · rw [if_neg hk0]
    have k0 := bne0 hk0
    clear hk0
    go_enter Tryz.func143, Tryz.ntmps143
    go_wp2_with fail
    refine (rwhole_list l _ (by have := HS.out; omega)).mono ?_
    rintro e w1 ⟨rfl, rfl⟩
    rw [HN.out]
    go_wp2_with fail
    rw [bs_pre]
    refine (rnatRead_list _ _ HD1.out (by have := LL.out.1; omega)).mono ?_
    rintro e w2 ⟨A1, c1, rfl, hA1, hb1⟩
    go_wp2_with fail
    rw [bs_suf, HR.out]
    have hA2 := hA1.alloc (.cells #[.int .u32 1] 45)
    have HBW : Hid (Below w1.heap.size w1 (w2.alloc (.cells #[.int .u32 1] 45))) := Lib.hid (hb1.alloc hb1.size _)
    refine (rwhole_list r _ (by have := LL.out.2.2; omega)).mono ?_
    rintro e w3 ⟨rfl, rfl⟩
    rw [HK.out]
    go_wp2_with fail
    rw [HX.out]
    refine (rnatRead_list _ _ HD2.out (by have := LL.out.2.1; omega)).mono ?_
    rintro e w4 ⟨A2, c2, rfl, hB2, hb2⟩
    replace hA2 := hA2.to hb2
    replace HBW := Lib.hid (HBW.out.trans (hb2.mono HBW.out.size))
    go_wp2_with fail
    exact bodyPost_ret (v := .tuple #[.slice A1 (ln (vd (l.take n))) c1, .slice A2 (ln (vd (r.take k))) c2, .int .i64 (m : Nat)]) (by simp [results, Tryz.results143, go_sem, W1, W2]) rfl ⟨A1, c1, A2, c2, rfl, hA2, hB2, HBW.out⟩

set_option maxRecDepth 100000 in
set_option maxHeartbeats 4000000 in
/-- 'magnitude' where no slash follows the first digits, and digits follow a point. -/
theorem rmag_more (l r0 S r : List UInt8) (w : World) (hs : l.length ≤ 1000000) (n0 k n Dn : Nat) (pt : Bool) (hn0 : whl l = n0) (h0 : n0 ≠ 0) (hr0 : l.drop n0 = r0) (h47 : r0.head? ≠ some 47)
    (hpt : decide (r0.head? = some 46) = pt) (hk : (dgs r0.tail).length = k) (hk0 : pt = true → k ≠ 0)
    (hS : S = if pt = true then l.take n0 ++ dgs r0.tail else l.take n0) (hD : Dn = if pt = true then 10 ^ k else 1) (hn : n = if pt = true then n0 + 1 + k else n0) (hr : r = if pt = true then dgr r0.tail else r0) :
    Calls Tryz.prog 143 #[.string (bs l)] w (RetMagC w (rmE S Dn n r)) := by
  have HS := Lib.hid hs
  have HN := Lib.hid hn0
  have n1 := bne0 h0
  have HR0 := Lib.hid hr0
  have H47 := Lib.hid h47
  have HPT := Lib.hid hpt
  have hn0l : n0 ≤ l.length := by rw [← hn0]; exact whl_le l
  have s0 : n0 ≤ (bs l).size := by rw [bs_size]; exact hn0l
  have HD1 : Hid (∀ c ∈ l.take n0, dgt c = true) := Lib.hid (by rw [← hn0]; exact whl_dgt l)
  have hpl : pt = true → ∃ t, r0 = 46 :: t := fun h => by
    rw [h] at hpt
    cases r0 with
    | nil => simp at hpt
    | cons c t => simp at hpt; exact ⟨t, by rw [hpt]⟩
  have hkl : pt = true → n0 + 1 + k ≤ l.length ∧ l.drop (n0 + 1) = r0.tail := fun h => by
    obtain ⟨t, rfl⟩ := hpl h
    have h1 := drop_len hr0 (by simp)
    have e1 : l.drop (n0 + 1) = t := drop_more hr0 rfl
    have h2 : t.length = l.length - (n0 + 1) := by rw [← e1, List.length_drop]
    have h3 := dgs_le t
    simp only [List.tail_cons] at hk ⊢
    exact ⟨by omega, e1⟩
  have hrn : l.drop n = r := by
    cases pt with
    | false => simp only [Bool.false_eq_true, if_false] at hn hr; rw [hn, hr]; exact hr0
    | true =>
      rw [if_pos rfl] at hn hr
      rw [hn, hr, ← hk]; exact drop_more (hkl rfl).2 (dgs_drop _)
  have HSd : Hid ((∀ c ∈ S, dgt c = true) ∧ S.length ≤ 1000000) := Lib.hid (by
    cases pt with
    | false => simp only [Bool.false_eq_true, if_false] at hS; rw [hS]; exact ⟨HD1.out, by simp; omega⟩
    | true =>
      rw [if_pos rfl] at hS
      rw [hS]
      refine ⟨fun c hc => ?_, ?_⟩
      · rcases List.mem_append.1 hc with h | h
        · exact HD1.out c h
        · exact dgs_dgt c h
      · have := (hkl rfl).1; rw [List.length_append, hk]; simp; omega)
  have hnl : n ≤ l.length := by
    cases pt with
    | false => simp only [Bool.false_eq_true, if_false] at hn; omega
    | true => rw [if_pos rfl] at hn; have := (hkl rfl).1; omega
  have HDl : Hid (ln Dn ≤ 1000001) := Lib.hid (by
    cases pt with
    | false => simp only [Bool.false_eq_true, if_false] at hD; rw [hD, ln_one]; omega
    | true => rw [if_pos rfl] at hD; have := (hkl rfl).1; rw [hD]; exact Nat.le_trans (ln_pow10 k) (by omega))
  have HK0 := Lib.hid hk0
  have HKL := Lib.hid hkl
  have HK := Lib.hid hk
  have HSe := Lib.hid hS
  have HDe := Lib.hid hD
  have HNe := Lib.hid hn
  have HRe := Lib.hid hr
  obtain ⟨P, hP⟩ : ∃ P, P = rmE S Dn n r := ⟨_, rfl⟩
  rw [← hP]
  have HP := Lib.hid hP
  clear hP
  have HRN := Lib.hid hrn
  have HNL := Lib.hid hnl
  have HN0 := Lib.hid hn0l
  clear hs hn0 h0 hr0 h47 hpt hk hk0 hS hD hn hr hn0l hpl hkl hrn hnl
  go_enter Tryz.func143, Tryz.ntmps143
  go_wp2_with fail
  refine (rwhole_list l _ (by have := HS.out; omega)).mono ?_
  rintro e w1 ⟨rfl, rfl⟩
  rw [HN.out]
  go_wp2_with fail
  rw [bs_pre]
  refine (rnatRead_list _ _ HD1.out (by have := HN0.out; have := HS.out; simp; omega)).mono ?_
  rintro e w2 ⟨A1, c1, rfl, hA1, hb1⟩
  go_upto_region 5 with fail
  have hA2 := hA1.alloc (.cells #[.int .u32 1] 45)
  have hB2 := nat1_new w2 45
  have HBW : Hid (Below w1.heap.size w1 (w2.alloc (.cells #[.int .u32 1] 45))) := Lib.hid (hb1.alloc hb1.size _)
  clear hA1 hb1
  generalize w2.heap.size = p2 at *
  generalize w2.alloc (.cells #[.int .u32 1] 45) = W2 at *
  clear w2
  go_cut [33] (fun b wx => b = .bool false ∧ wx = W2)
  case first =>
    by_cases hlt : n0 < (bs l).size
    · have t1 : (((bs l)[n0].toNat : Int) == 47) = false := (head_at HR0.out hlt 47).trans (decide_eq_false H47.out)
      go_wp2_with fail
      go_meet
      exact ⟨rfl, rfl⟩
    · go_wp2_with fail
      go_meet
      exact ⟨rfl, rfl⟩
  case rest =>
  obtain ⟨rfl, rfl⟩ := hcut
  go_upto_region 10 with fail
  go_cut [64] (fun b wy => b = .bool pt ∧ wy = wc)
  case first =>
    by_cases hlt : n0 < (bs l).size
    · have t1 : (((bs l)[n0].toNat : Int) == 46) = pt := (head_at HR0.out hlt 46).trans HPT.out
      go_wp2_with fail
      go_meet
      exact ⟨by simp [t1], rfl⟩
    · have t1 : pt = false := HPT.out.symm.trans (head_out HR0.out hlt 46)
      go_wp2_with fail
      go_meet
      exact ⟨by rw [t1], rfl⟩
  case rest =>
  obtain ⟨rfl, rfl⟩ := hcut
  go_upto_if 64 with fail
  go_cut [5, 6, 7, 9] (fun n' a' d' k' wx => n' = .int .i64 (n : Nat) ∧ ∃ A c B d, a' = .slice A (ln (vd S)) c ∧ d' = .slice B (ln Dn) d ∧ Nat32 wx A (vd S) ∧ Nat32 wx B Dn ∧ Below w1.heap.size w1 wx)
  case first =>
    cases pt with
    | false =>
      have e1 : n = n0 := HNe.out.trans (if_neg (by simp))
      have e2 : S = l.take n0 := HSe.out.trans (if_neg (by simp))
      have e3 : Dn = 1 := HDe.out.trans (if_neg (by simp))
      go_wp2_with fail
      go_meet
      exact ⟨by rw [e1], A1, c1, some ⟨p2, 0, none⟩, 1, by rw [e2], by rw [e3, ln_one], by rw [e2]; exact hA2, by rw [e3]; exact hB2, HBW.out⟩
    | true =>
      have e1 : n = n0 + 1 + k := HNe.out.trans (if_pos rfl)
      have e2 : S = l.take n0 ++ dgs r0.tail := HSe.out.trans (if_pos rfl)
      have e3 : Dn = 10 ^ k := HDe.out.trans (if_pos rfl)
      have k1 := bne0 (HK0.out rfl)
      have K := HKL.out rfl
      have W1 : wrap64 ((n0 : Int) + 1) = ((n0 + 1 : Nat) : Int) := wrap_one (by have := HS.out; omega)
      have W2 : wrap64 (((n0 + 1 : Nat) : Int) + k) = ((n0 + 1 + k : Nat) : Int) := wrap_two (by have := HS.out; omega)
      have V1 : IntKind.i64.wrap ((n0 : Int) + 1) = ((n0 + 1 : Nat) : Int) := wrapi_one (by have := HS.out; omega)
      have V2 : IntKind.i64.wrap (((n0 + 1 : Nat) : Int) + k) = ((n0 + 1 + k : Nat) : Int) := wrapi_two (by have := HS.out; omega)
      have K1 := Lib.hid K.1
      have K2 := Lib.hid K.2
      have s2 : n0 + 1 + k ≤ (bs l).size := by rw [bs_size]; exact K.1
      have s1 : n0 + 1 ≤ (bs l).size := by omega
      have s3 : n0 + 1 ≤ n0 + 1 + k := by omega
      have HX : Hid ((bs l).extract (n0 + 1) (n0 + 1 + k) = bs (dgs r0.tail)) := Lib.hid (by rw [bs_sub, ← HK.out, List.drop_take, K2.out, Nat.add_sub_cancel_left, dgs_take])
      have HY : Hid (vd S = vd (l.take n0 ++ dgs r0.tail)) := Lib.hid (by rw [e2])
      have HSL : Hid ((∀ c ∈ l.take n0 ++ dgs r0.tail, dgt c = true) ∧ (l.take n0 ++ dgs r0.tail).length ≤ 1000000) := Lib.hid (by rw [← e2]; exact HSd.out)
      have HE3 := Lib.hid e3
      have HE1 := Lib.hid e1
      have HKB : Hid (k ≤ 1000000) := Lib.hid (by have := K1.out; have := HS.out; omega)
      clear K e1 e2 e3
      rw [← HE1.out] at W2 V2 s2 s3 HX
      obtain ⟨n1', hn1⟩ : ∃ n1, n1 = n0 + 1 := ⟨_, rfl⟩
      have HN1 := Lib.hid hn1
      rw [← hn1] at W1 W2 V1 V2 s1 s3 HX K2
      have z1 : ¬ (9223372036854775807 < ((bs l).extract 0 n0).size + ((bs l).extract n1' n).size) := by rw [bs_pre, HX.out, bs_size, bs_size, ← List.length_append]; have := HSL.out.2; omega
      have z2 : ¬ (9223372036854775807 < min n0 (bs l).size + (min n (bs l).size - n1')) := by rw [ByteArray.size_extract, ByteArray.size_extract, Nat.sub_zero] at z1; exact z1
      clear hn1
      go_wp2_with fail
      rw [bs_suf, K2.out]
      refine (rdigits_list r0.tail _ (by have := HS.out; have := K1.out; rw [← K2.out]; simp; omega)).mono ?_
      rintro e w5 ⟨rfl, rfl⟩
      rw [HK.out]
      go_wp2_with fail
      go_region_with (first
        | (go_at_call 180; rw [bs_pre, HX.out, bs_app]; refine (rnatRead_list _ _ HSL.out.1 (by have := HSL.out.2; omega)).mono ?_; rintro e w6 ⟨A6, c6, rfl, hA6, hx⟩; replace HBW := Lib.hid (hstep HBW (by first | with_reducible exact hx | with_reducible exact undrew hx)); (try replace hD7 := hD7.to hx); clear hx)
        | (go_at_call 182; refine (rpower_any k _ HKB.out).mono ?_; rintro e w7 ⟨A7, c7, rfl, hD7, hx⟩; replace HBW := Lib.hid (hstep HBW (by first | with_reducible exact hx | with_reducible exact undrew hx)); (try replace hA6 := hA6.to hx); clear hx))
      all_goals
        go_wp2_with fail
        go_meet
        exact ⟨rfl, A6, c6, A7, c7, by rw [HY.out], by rw [HE3.out], by rw [HY.out]; exact hA6, by rw [HE3.out]; exact hD7, HBW.out⟩
  case rest =>
  obtain ⟨rfl, A, c, B, d, rfl, rfl, hA, hB, hbw⟩ := hcut
  replace HBW := Lib.hid hbw
  clear hbw hA2 hB2 HSe HDe HNe HRe HKL HK0 HK HPT H47 HR0 HN HN0 HD1
  obtain ⟨W3, rfl⟩ : ∃ W3 : World, W3 = wc := ⟨_, rfl⟩
  go_upto_region 16 with fail
  obtain ⟨q, hq⟩ : ∃ q, decide (r.head? = some 101) = q := ⟨_, rfl⟩
  go_cut [100] (fun b wy => b = .bool q ∧ wy = W3)
  case first =>
    by_cases hlt : n < (bs l).size
    · have t1 : (((bs l)[n].toNat : Int) == 101) = q := (head_at HRN.out hlt 101).trans hq
      clear hq
      go_wp2_with fail
      go_meet
      exact ⟨by simp [t1], rfl⟩
    · have t1 : q = false := hq.symm.trans (head_out HRN.out hlt 101)
      clear hq
      go_wp2_with fail
      go_meet
      exact ⟨by rw [t1], rfl⟩
  case rest =>
  obtain ⟨rfl, rfl⟩ := hcut
  cases q with
  | false =>
    have e : Hid (P = (vd S, Dn, n)) := Lib.hid (HP.out.trans (by unfold rmE; rw [if_pos (by simpa using hq)]))
    clear hq
    go_wp2_with fail
    exact bodyPost_ret (v := .tuple #[.slice A (ln (vd S)) c, .slice B (ln Dn) d, .int .i64 (n : Nat)]) (by simp [results, Tryz.results143, go_sem]) rfl (by rw [e.out]; exact ⟨A, c, B, d, rfl, hA, hB, HBW.out⟩)
  | true =>
    obtain ⟨t, rfl⟩ : ∃ t, r = 101 :: t := by
      cases r with
      | nil => simp at hq
      | cons c t => simp at hq; exact ⟨t, by rw [hq]⟩
    have hP := HP.out
    clear HP
    rw [rmE_e] at hP
    clear hq
    have hlt : n < l.length := drop_len HRN.out (by simp)
    have ht : l.drop (n + 1) = t := drop_more HRN.out rfl
    have hsg := sgr_drop (101 :: t) 101 t rfl
    obtain ⟨dn, hdn⟩ : ∃ dn, decide (t.head? = some 45) = dn := ⟨_, rfl⟩
    obtain ⟨m, hm⟩ : ∃ m, m = if dn = true then n + 1 + 1 else n + 1 := ⟨_, rfl⟩
    have hmq : l.drop m = sgr t ∧ m ≤ l.length := by
      cases dn with
      | true =>
        have hh : t.head? = some 45 := by simpa using hdn
        rw [if_pos rfl] at hm
        have h3 : t ≠ [] := by rintro rfl; simp at hh
        have h4 := drop_len ht h3
        exact ⟨by rw [show m = n + 2 by omega]; exact drop_more HRN.out (hsg.1 hh), by omega⟩
      | false =>
        have hh : t.head? ≠ some 45 := by simpa using hdn
        rw [if_neg (by simp)] at hm
        exact ⟨by rw [hm]; exact drop_more HRN.out (hsg.2 hh), by omega⟩
    obtain ⟨kk, hkk⟩ : ∃ kk, whl (sgr t) = kk := ⟨_, rfl⟩
    obtain ⟨ev, hev⟩ : ∃ ev, vd ((sgr t).take kk) = ev := ⟨_, rfl⟩
    have goalE : (if whl (sgr t) = 0 ∨ 3 < whl (sgr t) ∨ 400 < vd ((sgr t).take (whl (sgr t))) then ((0 : Nat), (0 : Nat), (0 : Nat))
        else if t.head? = some 45 then (vd S, Dn * 10 ^ vd ((sgr t).take (whl (sgr t))), n + 2 + whl (sgr t))
        else (vd S * 10 ^ vd ((sgr t).take (whl (sgr t))), Dn, n + 1 + whl (sgr t)))
        = if kk = 0 ∨ 3 < kk ∨ 400 < ev then (0, 0, 0) else if dn = true then (vd S, Dn * 10 ^ ev, m + kk) else (vd S * 10 ^ ev, Dn, m + kk) := by
      rw [hkk, hev]
      cases dn with
      | true =>
        have hh : t.head? = some 45 := by simpa using hdn
        rw [if_pos rfl] at hm
        rw [if_pos hh, if_pos rfl, hm]
      | false =>
        have hh : t.head? ≠ some 45 := by simpa using hdn
        rw [if_neg (by simp)] at hm
        rw [if_neg hh, if_neg (show ¬ false = true by simp), hm]
    rw [goalE] at hP
    have HP := Lib.hid hP
    clear goalE hP
    have HT := Lib.hid ht
    have HDN := Lib.hid hdn
    have HM := Lib.hid hm
    have HMQ := Lib.hid hmq.1
    have hml := hmq.2
    have hsl : (sgr t).length = l.length - m := by rw [← hmq.1, List.length_drop]
    have hkl : kk ≤ (sgr t).length := by rw [← hkk]; exact whl_le _
    have HKK := Lib.hid hkk
    have HEV := Lib.hid hev
    have HDG : Hid (∀ c ∈ (sgr t).take kk, dgt c = true) := Lib.hid (by rw [← hkk]; exact whl_dgt _)
    have HLN : Hid (n < l.length ∧ m + kk ≤ l.length ∧ (sgr t).length ≤ 1000000) := Lib.hid ⟨hlt, by omega, by have := HS.out; omega⟩
    have s1 : m ≤ (bs l).size := by rw [bs_size]; exact hml
    have s2 : ¬ (bs l).size < m := by omega
    have W1 : wrap64 ((n : Int) + 1) = ((n + 1 : Nat) : Int) := wrap_one (by have := HS.out; omega)
    have W2 : wrap64 (((n + 1 : Nat) : Int) + 1) = ((n + 1 + 1 : Nat) : Int) := wrap_one (Nat.le_trans (Nat.succ_le_of_lt hlt) (Nat.le_trans HS.out (by decide)))
    have W3' : wrap64 ((m : Int) + kk) = ((m + kk : Nat) : Int) := wrap_two (by have := HS.out; omega)
    generalize sgr t = q at *
    clear hlt ht hsg hdn hm hmq hml hsl hkl hkk hev
    obtain ⟨n1, hn1⟩ : ∃ n1, n1 = n + 1 := ⟨_, rfl⟩
    have HN1 := Lib.hid hn1
    rw [← hn1] at W1 W2 HT
    obtain ⟨M, hM⟩ : ∃ M, M = m + kk := ⟨_, rfl⟩
    have HMM := Lib.hid hM
    rw [← hM] at W3' HLN HP
    clear hn1 hM
    obtain ⟨W4, rfl⟩ : ∃ W4 : World, W4 = wc := ⟨_, rfl⟩
    go_upto_region 18 with fail
    go_cut [11] (fun b wy => b = .bool dn ∧ wy = W4)
    case first =>
      by_cases hlt : n1 < (bs l).size
      · have t1 : (((bs l)[n1].toNat : Int) == 45) = dn := (head_at HT.out hlt 45).trans HDN.out
        go_wp2_with fail
        go_meet
        exact ⟨by simp [t1], rfl⟩
      · have t1 : dn = false := HDN.out.symm.trans (head_out HT.out hlt 45)
        go_wp2_with fail
        go_meet
        exact ⟨by rw [t1], rfl⟩
    case rest =>
    obtain ⟨rfl, rfl⟩ := hcut
    obtain ⟨W5, rfl⟩ : ∃ W5 : World, W5 = wc := ⟨_, rfl⟩
    go_upto_if 113 with fail
    go_cut [10] (fun a wy => a = .int .i64 (m : Nat) ∧ wy = W5)
    case first =>
      cases dn with
      | true =>
        have e : n1 + 1 = m := by rw [HN1.out]; exact (HM.out.trans (if_pos rfl)).symm
        rw [e] at W2
        go_wp2_with fail
        go_meet
        exact ⟨rfl, rfl⟩
      | false =>
        have e : m = n1 := by rw [HN1.out]; exact HM.out.trans (if_neg (by simp))
        go_wp2_with fail
        go_meet
        exact ⟨by rw [W1, e], rfl⟩
    case rest =>
    obtain ⟨rfl, rfl⟩ := hcut
    obtain ⟨W6, rfl⟩ : ∃ W6 : World, W6 = wc := ⟨_, rfl⟩
    go_wp2_with fail
    rw [bs_suf, HMQ.out]
    refine (rwhole_list q _ (by have := HLN.out.2.2; omega)).mono ?_
    rintro e w8 ⟨rfl, rfl⟩
    rw [HKK.out]
    by_cases k0 : kk = 0
    · have k1 := beq0 k0
      have E : Hid (P = (0, 0, 0)) := Lib.hid (HP.out.trans (if_pos (.inl k0)))
      clear k0
      go_wp2_with fail
      exact bodyPost_ret (v := .tuple #[.slice none 0 0, .slice none 0 0, .int .i64 0]) (by simp [results, Tryz.results143, go_sem]) rfl (by rw [E.out]; exact retMagC_zero HBW.out)
    · have k1 := bne0 k0
      by_cases k3 : 3 < kk
      · have k2 : decide ((3 : Int) < (kk : Int)) = true := decide_eq_true (by omega)
        have E : Hid (P = (0, 0, 0)) := Lib.hid (HP.out.trans (if_pos (.inr (.inl k3))))
        clear k0 k3
        go_wp2_with fail
        exact bodyPost_ret (v := .tuple #[.slice none 0 0, .slice none 0 0, .int .i64 0]) (by simp [results, Tryz.results143, go_sem]) rfl (by rw [E.out]; exact retMagC_zero HBW.out)
      · have k2 : decide ((3 : Int) < (kk : Int)) = false := decide_eq_false (by omega)
        have HK3 : Hid (kk ≤ 3 ∧ kk ≠ 0) := Lib.hid ⟨by omega, k0⟩
        have HV : Hid (ev < 1000 ∧ ev = vdp (bs q) kk) := Lib.hid ⟨by rw [← HEV.out]; exact vd_three (by simp; omega) HDG.out, by rw [← HEV.out]; unfold vdp; rw [bs_list]⟩
        clear k0 k3
        go_wp2_with fail
        go_loopg [13, 14] kk (fun mm x u wr => ∃ j : Nat, u = .int .i64 ((m + j : Nat) : Int) ∧ x = .int .i64 (vdp (bs q) j : Nat) ∧ Hid (j + mm = kk) ∧ wr = w8)
        case atStart => exact ⟨0, rfl, by rw [vdp_zero]; rfl, Lib.hid (by omega), rfl⟩
        case round =>
          obtain ⟨j, rfl, rfl, hj, rfl⟩ := hrel
          obtain ⟨i, hi⟩ : ∃ i, i = m + j := ⟨_, rfl⟩
          rw [← hi]
          have HI := Lib.hid hi
          clear hi
          by_cases h9 : j < kk
          · have hiM : i < M := by have := HI.out; have := HMM.out; omega
            have t1 : decide ((i : Int) < (M : Int)) = true := decide_eq_true (by omega)
            have h1 : i < (bs l).size := by rw [bs_size]; have := HLN.out.2.1; omega
            have hq1 : j < (bs q).size := by
              rw [bs_size, ← HMQ.out, List.length_drop]; have := HLN.out.2.1; have := HI.out; have := HMM.out; omega
            have eg : (bs l)[i] = (bs q)[j] := by
              rw [bs_get, bs_get]
              have h2 : j < (l.drop m).length := by rw [HMQ.out]; rw [bs_size] at hq1; exact hq1
              have h3 : (l.drop m)[j] = l[i]'(by rw [bs_size] at h1; exact h1) := by rw [List.getElem_drop]; congr 1; exact HI.out.symm
              rw [← h3]; congr 1
            have hdd : dgt (bs q)[j] = true := HDG.out _ (by
              rw [bs_get]
              rw [List.mem_take_iff_getElem]
              exact ⟨j, by rw [bs_size] at hq1; omega, rfl⟩)
            simp only [dgt, Bool.and_eq_true, decide_eq_true_eq] at hdd
            rw [← eg] at hdd
            have d1 : (48 : Int) ≤ ((bs l)[i].toNat : Int) := by omega
            have d2 : ((bs l)[i].toNat : Int) ≤ 57 := by omega
            have E : Hid (vdp (bs q) (j + 1) = 10 * vdp (bs q) j + ((bs l)[i].toNat - 48)) := Lib.hid (by rw [vdp_succ hq1, eg])
            have b1 : vdp (bs q) j < 1000 := by
              have h2 := vdp_mono (bs q) j kk (by omega)
              have := HV.out; omega
            obtain ⟨D, hD⟩ : ∃ D, D = (bs l)[i].toNat - 48 := ⟨_, rfl⟩
            have E2 : (((bs l)[i].toNat : Int) - 48) = (D : Int) := by omega
            rw [← hD] at E
            have HDB : D < 10 := by omega
            clear hdd hD eg
            obtain ⟨P0, hP0⟩ : ∃ P0, P0 = vdp (bs q) j := ⟨_, rfl⟩
            rw [← hP0] at E b1 ⊢
            clear hP0
            go_wp2_with fail
            go_roundg (gk - 1)
            case measure => have := hj.out; omega
            case rel =>
              refine ⟨j + 1, ?_, ?_, Lib.hid (by have := hj.out; omega), rfl⟩
              · rw [wrap_one (by have := HLN.out.2.1; have := HS.out; omega), HI.out]; congr 1
              · rw [E.out]; congr 1
          · obtain rfl : j = kk := by have := hj.out; omega
            obtain rfl : i = M := by rw [HI.out, HMM.out]
            have t1 : decide ((i : Int) < (i : Int)) = false := decide_eq_false (by omega)
            rw [← HV.out.2]
            by_cases h4 : 400 < ev
            · have t2 : decide ((400 : Int) < (ev : Int)) = true := decide_eq_true (by omega)
              have E : Hid (P = (0, 0, 0)) := Lib.hid (HP.out.trans (if_pos (.inr (.inr h4))))
              clear h4
              go_wp2_with fail
              exact bodyPost_ret (v := .tuple #[.slice none 0 0, .slice none 0 0, .int .i64 0]) (by simp [results, Tryz.results143, go_sem]) rfl (by rw [E.out]; exact retMagC_zero HBW.out)
            · have t2 : decide ((400 : Int) < (ev : Int)) = false := decide_eq_false (by omega)
              have E : Hid (P = if dn = true then (vd S, Dn * 10 ^ ev, i) else (vd S * 10 ^ ev, Dn, i)) := Lib.hid (HP.out.trans (if_neg (by have := HK3.out; omega)))
              have HEB : Hid (ev ≤ 1000000) := Lib.hid (by omega)
              have LU : Hid (ln (10 ^ ev) ≤ 1001) := Lib.hid (Nat.le_trans (ln_ten (Nat.pow_lt_pow_right (by omega) (show ev < ev + 1 by omega))) (by omega))
              have LS : Hid (ln (vd S) ≤ 2000000) := Lib.hid (Nat.le_trans (ln_ten (vd_all HSd.out.1)) (by have := HSd.out.2; omega))
              clear h4
              cases dn with
              | true =>
                have E1 : Hid (P = (vd S, Dn * 10 ^ ev, i)) := Lib.hid (E.out.trans (if_pos rfl))
                go_wp2_with fail
                refine (rpower_any ev _ HEB.out).mono ?_
                rintro e w9 ⟨A9, c9, rfl, hU, hx⟩
                replace hA := hA.to hx
                replace hB := hB.to hx
                replace HBW := Lib.hid (hstep HBW hx)
                clear hx
                go_wp2_with fail
                refine (rnatMul_any Dn (10 ^ ev) B A9 d c9 _ (by exact hB) (by exact hU) (Nat.le_trans HDl.out (by omega)) (Nat.le_trans LU.out (by omega))).mono ?_
                rintro e w10 ⟨A10, c10, rfl, hM, hx⟩
                replace hA := hA.to hx
                replace HBW := Lib.hid (hstep HBW hx)
                clear hx
                go_wp2_with fail
                exact bodyPost_ret (v := .tuple #[.slice A (ln (vd S)) c, .slice A10 (ln (Dn * 10 ^ ev)) c10, .int .i64 (i : Nat)]) (by simp [results, Tryz.results143, go_sem, W3']) rfl (by rw [E1.out]; exact ⟨A, c, A10, c10, rfl, hA, hM, HBW.out⟩)
              | false =>
                have E1 : Hid (P = (vd S * 10 ^ ev, Dn, i)) := Lib.hid (E.out.trans (if_neg (by simp)))
                go_wp2_with fail
                refine (rpower_any ev _ HEB.out).mono ?_
                rintro e w9 ⟨A9, c9, rfl, hU, hx⟩
                replace hA := hA.to hx
                replace hB := hB.to hx
                replace HBW := Lib.hid (hstep HBW hx)
                clear hx
                go_wp2_with fail
                refine (rnatMul_any (vd S) (10 ^ ev) A A9 c c9 _ (by exact hA) (by exact hU) (Nat.le_trans LS.out (by omega)) (Nat.le_trans LU.out (by omega))).mono ?_
                rintro e w10 ⟨A10, c10, rfl, hM, hx⟩
                replace hB := hB.to hx
                replace HBW := Lib.hid (hstep HBW hx)
                clear hx
                go_wp2_with fail
                exact bodyPost_ret (v := .tuple #[.slice A10 (ln (vd S * 10 ^ ev)) c10, .slice B (ln Dn) d, .int .i64 (i : Nat)]) (by simp [results, Tryz.results143, go_sem, W3']) rfl (by rw [E1.out]; exact ⟨A10, c10, B, d, rfl, hM, hB, HBW.out⟩)
set_option maxRecDepth 100000 in
set_option maxHeartbeats 4000000 in
theorem rmag_point0 (l r : List UInt8) (w : World) (hs : l.length ≤ 1000000) (n : Nat) (hn : whl l = n) (h0 : n ≠ 0) (hr : l.drop n = 46 :: r) (hk : (dgs r).length = 0) :
    Calls Tryz.prog 143 #[.string (bs l)] w (RetMagC w (0, 0, 0)) := by
  have HS := Lib.hid hs
  have HN := Lib.hid hn
  have HK := Lib.hid hk
  have n0 := bne0 h0
  have hl := drop_len hr (by simp)
  have h1 : n < (bs l).size := by rw [bs_size]; omega
  have t0 : (((bs l)[n].toNat : Int) == 47) = false := (head_at hr h1 47).trans (by simp)
  have t1 : (((bs l)[n].toNat : Int) == 46) = true := (head_at hr h1 46).trans (by simp)
  have e1 : l.drop (n + 1) = r := drop_more hr rfl
  have s1 : n + 1 ≤ (bs l).size := by omega
  have HR := Lib.hid e1
  have W1 : wrap64 ((n : Int) + 1) = ((n + 1 : Nat) : Int) := wrap_one (by omega)
  have HD1 : Hid (∀ c ∈ l.take n, dgt c = true) := Lib.hid (by rw [← hn]; exact whl_dgt l)
  have LL : Hid ((l.take n).length ≤ 1000000 ∧ r.length ≤ 1000000) := Lib.hid (by rw [← e1]; simp; omega)
  obtain ⟨n1, hn1⟩ : ∃ n1, n1 = n + 1 := ⟨_, rfl⟩
  rw [← hn1] at W1 s1 HR
  clear hs hn hk hr hl e1 hn1
  go_enter Tryz.func143, Tryz.ntmps143
  go_wp2_with fail
  refine (rwhole_list l _ (by have := HS.out; omega)).mono ?_
  rintro e w1 ⟨rfl, rfl⟩
  rw [HN.out]
  go_wp2_with fail
  rw [bs_pre]
  refine (rnatRead_list _ _ HD1.out (by have := LL.out.1; omega)).mono ?_
  rintro e w2 ⟨A1, c1, rfl, hA1, hb1⟩
  go_wp2_with fail
  rw [bs_suf, HR.out]
  refine (rdigits_list r _ (by have := LL.out.2; omega)).mono ?_
  rintro e w3 ⟨rfl, rfl⟩
  rw [HK.out]
  go_wp2_with fail
  exact bodyPost_ret (v := .tuple #[.slice none 0 0, .slice none 0 0, .int .i64 0]) (by simp [results, Tryz.results143, go_sem]) rfl (retMagC_zero (hb1.alloc hb1.size _))
/-- 'magnitude'. -/
theorem rmag_all (l : List UInt8) (w : World) (hs : l.length ≤ 1000000) :
    Calls Tryz.prog 143 #[.string (bs l)] w (RetMagC w (rmP l)) := by
  by_cases h0 : whl l = 0
  · have e : rmP l = (0, 0, 0) := by unfold rmP; rw [if_pos h0]
    rw [e]; exact rmag_none l w hs h0
  · obtain ⟨r0, hr0⟩ : ∃ r0, l.drop (whl l) = r0 := ⟨_, rfl⟩
    by_cases h47 : r0.head? = some 47
    · obtain ⟨t, rfl⟩ : ∃ t, r0 = 47 :: t := by
        cases r0 with
        | nil => simp at h47
        | cons c t => simp at h47; exact ⟨t, by rw [h47]⟩
      have e : rmP l = if whl t = 0 then (0, 0, 0) else (vd (l.take (whl l)), vd (t.take (whl t)), whl l + 1 + whl t) := by
        unfold rmP; rw [if_neg h0, hr0, if_pos h47]; rfl
      rw [e]; exact rmag_slash l t w hs _ _ rfl h0 hr0 rfl
    · by_cases h46 : r0.head? = some 46
      · obtain ⟨t, rfl⟩ : ∃ t, r0 = 46 :: t := by
          cases r0 with
          | nil => simp at h46
          | cons c t => simp at h46; exact ⟨t, by rw [h46]⟩
        by_cases hk : (dgs t).length = 0
        · have e : rmP l = (0, 0, 0) := by
            unfold rmP; rw [if_neg h0, hr0, if_neg h47, if_pos h46, if_pos (show (dgs (46 :: t : List UInt8).tail).length = 0 from hk)]
          rw [e]; exact rmag_point0 l t w hs _ rfl h0 hr0 hk
        · have e : rmP l = rmE (l.take (whl l) ++ dgs t) (10 ^ (dgs t).length) (whl l + 1 + (dgs t).length) (dgr t) := by
            unfold rmP; rw [if_neg h0, hr0, if_neg h47, if_pos h46, if_neg (show ¬ (dgs (46 :: t : List UInt8).tail).length = 0 from hk)]; rfl
          rw [e]
          exact rmag_more l (46 :: t) _ _ w hs (whl l) _ _ _ true rfl h0 hr0 h47 (by rfl) rfl (fun _ => hk) rfl rfl rfl rfl
      · have e : rmP l = rmE (l.take (whl l)) 1 (whl l) r0 := by
          unfold rmP; rw [if_neg h0, hr0, if_neg h47, if_neg h46]
        rw [e]
        exact rmag_more l r0 _ _ w hs (whl l) _ _ _ false rfl h0 hr0 h47 (decide_eq_false h46) rfl (by simp) (if_neg (by simp)).symm (if_neg (by simp)).symm (if_neg (by simp)).symm (if_neg (by simp)).symm
end Go.Proofs.YtgpmlhpgdalheaaGreat

namespace Go.Proofs.YtgpmlhpgdalheaaGreat
open Go.RowKit Pl
set_option linter.unusedVariables false
set_option linter.unusedSimpArgs false

/-- Two local integers that are not negative. -/
def TwoInt (W : World) (A B : Option Addr) (n m c d : Nat) (p q : Value) (wx : World) : Prop := ∃ g h, p = .pointer (some ⟨g, 0, none⟩) ∧ q = .pointer (some ⟨h, 0, none⟩) ∧
  (wx.cell? ⟨g, 0, none⟩ = some (.bool false) ∧ wx.cell? ⟨g, 1, none⟩ = some (.slice A n c)) ∧ (wx.cell? ⟨h, 0, none⟩ = some (.bool false) ∧ wx.cell? ⟨h, 1, none⟩ = some (.slice B m d)) ∧
  (W.heap.size ≤ g ∧ g < wx.heap.size) ∧ (W.heap.size ≤ h ∧ h < wx.heap.size) ∧ Below W.heap.size W wx
theorem twoInt_a (W : World) (A B : Option Addr) (n m c d : Nat) (T : TypeId) : TwoInt W A B n m c d (.pointer (some ⟨W.heap.size, 0, none⟩)) (.pointer (some ⟨W.heap.size + 1, 0, none⟩)) ((W.alloc (.cells #[.bool false, .slice A n c] T)).alloc (.cells #[.bool false, .slice B m d] T)).drew :=
  ⟨_, _, rfl, rfl, ⟨by go_simp, by go_simp⟩, ⟨by go_simp, by go_simp⟩, ⟨by omega, by show _ < ((W.alloc _).alloc _).heap.size; simp <;> omega⟩, ⟨by omega, by show _ < ((W.alloc _).alloc _).heap.size; simp <;> omega⟩, below_drewN (((Below.refl _ _).alloc (Nat.le_refl _) _).alloc (by simp) _) 1⟩
theorem twoInt_b (W : World) (A B : Option Addr) (n m c d : Nat) (T : TypeId) : TwoInt W A B n m c d (.pointer (some ⟨W.heap.size + 1, 0, none⟩)) (.pointer (some ⟨W.heap.size, 0, none⟩)) ((W.alloc (.cells #[.bool false, .slice B m d] T)).alloc (.cells #[.bool false, .slice A n c] T)).drew :=
  ⟨_, _, rfl, rfl, ⟨by go_simp, by go_simp⟩, ⟨by go_simp, by go_simp⟩, ⟨by omega, by show _ < ((W.alloc _).alloc _).heap.size; simp <;> omega⟩, ⟨by omega, by show _ < ((W.alloc _).alloc _).heap.size; simp <;> omega⟩, below_drewN (((Below.refl _ _).alloc (Nat.le_refl _) _).alloc (by simp) _) 1⟩

theorem rtimes_n (a : Int) (n : Nat) (A B : Option Addr) (cA cB : Nat) (w : World) (hx : Nat32 w A (ab a)) (hy : Nat32 w B n) (hbx : ln (ab a) ≤ 1099511627776) (hby : ln n ≤ 1099511627776) :
    Calls Tryz.prog 102 #[.agg #[.bool (sn a), .slice A (ln (ab a)) cA], .agg #[.bool false, .slice B (ln n) cB]] w (RetWholeC w (a * (n : Int))) := by
  have e : ab (n : Int) = n := by unfold ab; omega
  have e2 : sn (n : Int) = false := by unfold sn; rw [decide_eq_false_iff_not]; omega
  have h := rtimes_any a (n : Int) A B cA cB w hx (by rw [e]; exact hy) hbx (by rw [e]; exact hby)
  rwa [e, e2] at h
theorem ab_muln_ln {a : Int} {n K L : Nat} (ha : ln (ab a) ≤ K) (hn : ln n ≤ L) : ln (ab (a * (n : Int))) ≤ K + L := ab_mul_ln ha (b := (n : Int)) (by rw [show ab (n : Int) = n by unfold ab; omega]; exact hn)

set_option maxHeartbeats 4000000 in
theorem radd_any (x y : Cx) (A1 A2 A3 B1 B2 B3 : Option Addr) (cA1 cA2 cA3 cB1 cB2 cB3 : Nat) (w : World) (hx : Num3C w A1 A2 A3 x) (hy : Num3C w B1 B2 B3 y) (hsx : sz 137438953472 x) (hsy : sz 137438953472 y) :
    Calls Tryz.prog 27 #[.agg #[.bool (sn (na x)), .slice A1 (ln (ab (na x))) cA1, .bool (sn (nb x)), .slice A2 (ln (ab (nb x))) cA2, .slice A3 (ln (nd x)) cA3], .agg #[.bool (sn (na y)), .slice B1 (ln (ab (na y))) cB1, .bool (sn (nb y)), .slice B2 (ln (ab (nb y))) cB2, .slice B3 (ln (nd y)) cB3]] w (RetNumC w (x.add y)) := by
  obtain ⟨hx1, hx2, hx3⟩ := hx
  obtain ⟨hy1, hy2, hy3⟩ := hy
  have HSX := Lib.hid hsx
  have HSY := Lib.hid hsy
  clear hsx hsy
  rw [← add_fr]
  go_enter Tryz.func27, Tryz.ntmps27
  go_wp2_with fail
  obtain ⟨W, hW⟩ : ∃ W : World, W = (((w.alloc (.cells #[.bool (sn (na x)), .slice A1 (ln (ab (na x))) cA1, .bool (sn (nb x)), .slice A2 (ln (ab (nb x))) cA2, .slice A3 (ln (nd x)) cA3] 34)).alloc (.cells #[.bool (sn (na y)), .slice B1 (ln (ab (na y))) cB1, .bool (sn (nb y)), .slice B2 (ln (ab (nb y))) cB2, .slice B3 (ln (nd y)) cB3] 34)).alloc (.cells #[.bool false, .slice none 0 0, .bool false, .slice none 0 0, .slice none 0 0] 34)) := ⟨_, rfl⟩
  have s0_0 : W.cell? ⟨w.heap.size, 0, none⟩ = some (.bool (sn (na x))) := by subst hW; go_simp
  have s0_1 : W.cell? ⟨w.heap.size, 1, none⟩ = some (.slice A1 (ln (ab (na x))) cA1) := by subst hW; go_simp
  have s0_2 : W.cell? ⟨w.heap.size, 2, none⟩ = some (.bool (sn (nb x))) := by subst hW; go_simp
  have s0_3 : W.cell? ⟨w.heap.size, 3, none⟩ = some (.slice A2 (ln (ab (nb x))) cA2) := by subst hW; go_simp
  have s0_4 : W.cell? ⟨w.heap.size, 4, none⟩ = some (.slice A3 (ln (nd x)) cA3) := by subst hW; go_simp
  have s1_0 : W.cell? ⟨w.heap.size + 1, 0, none⟩ = some (.bool (sn (na y))) := by subst hW; go_simp
  have s1_1 : W.cell? ⟨w.heap.size + 1, 1, none⟩ = some (.slice B1 (ln (ab (na y))) cB1) := by subst hW; go_simp
  have s1_2 : W.cell? ⟨w.heap.size + 1, 2, none⟩ = some (.bool (sn (nb y))) := by subst hW; go_simp
  have s1_3 : W.cell? ⟨w.heap.size + 1, 3, none⟩ = some (.slice B2 (ln (ab (nb y))) cB2) := by subst hW; go_simp
  have s1_4 : W.cell? ⟨w.heap.size + 1, 4, none⟩ = some (.slice B3 (ln (nd y)) cB3) := by subst hW; go_simp
  have r0 : W.cell? ⟨w.heap.size + 1 + 1, 0, none⟩ = some (.bool false) := by subst hW; go_simp
  have f0 : W.frozen? ⟨w.heap.size + 1 + 1, 0, none⟩ = false := by subst hW; go_simp
  have r1 : W.cell? ⟨w.heap.size + 1 + 1, 1, none⟩ = some (.slice none 0 0) := by subst hW; go_simp
  have f1 : W.frozen? ⟨w.heap.size + 1 + 1, 1, none⟩ = false := by subst hW; go_simp
  have r2 : W.cell? ⟨w.heap.size + 1 + 1, 2, none⟩ = some (.bool false) := by subst hW; go_simp
  have f2 : W.frozen? ⟨w.heap.size + 1 + 1, 2, none⟩ = false := by subst hW; go_simp
  have r3 : W.cell? ⟨w.heap.size + 1 + 1, 3, none⟩ = some (.slice none 0 0) := by subst hW; go_simp
  have f3 : W.frozen? ⟨w.heap.size + 1 + 1, 3, none⟩ = false := by subst hW; go_simp
  have r4 : W.cell? ⟨w.heap.size + 1 + 1, 4, none⟩ = some (.slice none 0 0) := by subst hW; go_simp
  have f4 : W.frozen? ⟨w.heap.size + 1 + 1, 4, none⟩ = false := by subst hW; go_simp
  have HW : Below w.heap.size w W := by subst hW; exact ((((Below.refl w.heap.size w).alloc (Nat.le_refl _) _).alloc (by simp) _).alloc (by simp; omega) _)
  have l0 : w.heap.size < W.heap.size := by subst hW; simp <;> omega
  have l1 : w.heap.size + 1 < W.heap.size := by subst hW; simp <;> omega
  have l2 : w.heap.size + 1 + 1 < W.heap.size := by subst hW; simp
  have n0 : w.heap.size ≠ w.heap.size + 1 + 1 := by omega
  have n1 : w.heap.size + 1 ≠ w.heap.size + 1 + 1 := by omega
  replace hx1 := hx1.to HW
  replace hx2 := hx2.to HW
  replace hx3 := hx3.to HW
  replace hy1 := hy1.to HW
  replace hy2 := hy2.to HW
  replace hy3 := hy3.to HW
  rw [← hW]
  clear hW
  replace HW := Lib.hid HW
  go_upto_region 1 with fail
  go_cut [5, 6] (fun p q wx => TwoInt W A3 B3 (ln (nd x)) (ln (nd y)) cA3 cB3 p q wx)
  case first =>
    go_region
    all_goals (go_wp2_with fail; go_meet; first | exact twoInt_a _ _ _ _ _ _ _ _ | exact twoInt_b _ _ _ _ _ _ _ _)
  case rest =>
  obtain ⟨g0, g1, hp0, hp1, ⟨t0_0, t0_1⟩, ⟨t1_0, t1_1⟩, ⟨hg0, l100⟩, ⟨hg1, l101⟩, hb1⟩ := hcut
  subst hp0 hp1
  have n100 : g0 ≠ w.heap.size + 1 + 1 := by omega
  have n101 : g1 ≠ w.heap.size + 1 + 1 := by omega
  obtain ⟨w1, rfl⟩ : ∃ X : World, X = wc := ⟨_, rfl⟩
  replace s0_0 := keepc hb1 s0_0 l0
  replace s0_1 := keepc hb1 s0_1 l0
  replace s0_2 := keepc hb1 s0_2 l0
  replace s0_3 := keepc hb1 s0_3 l0
  replace s0_4 := keepc hb1 s0_4 l0
  replace s1_0 := keepc hb1 s1_0 l1
  replace s1_1 := keepc hb1 s1_1 l1
  replace s1_2 := keepc hb1 s1_2 l1
  replace s1_3 := keepc hb1 s1_3 l1
  replace s1_4 := keepc hb1 s1_4 l1
  replace r0 := keepc hb1 r0 l2
  replace f0 := keepf hb1 f0 l2
  replace r1 := keepc hb1 r1 l2
  replace f1 := keepf hb1 f1 l2
  replace r2 := keepc hb1 r2 l2
  replace f2 := keepf hb1 f2 l2
  replace r3 := keepc hb1 r3 l2
  replace f3 := keepf hb1 f3 l2
  replace r4 := keepc hb1 r4 l2
  replace f4 := keepf hb1 f4 l2
  replace l0 := Nat.lt_of_lt_of_le l0 hb1.size
  replace l1 := Nat.lt_of_lt_of_le l1 hb1.size
  replace l2 := Nat.lt_of_lt_of_le l2 hb1.size
  replace hx1 := hx1.to hb1
  replace hx2 := hx2.to hb1
  replace hx3 := hx3.to hb1
  replace hy1 := hy1.to hb1
  replace hy2 := hy2.to hb1
  replace hy3 := hy3.to hb1
  replace HW := Lib.hid (hstep HW hb1)
  clear hb1
  go_wp2_with fail
  go_region_held3 (fun w' => w'.cell? ⟨w.heap.size, 0, none⟩ = some (.bool (sn (na x))) ∧ w'.cell? ⟨w.heap.size, 1, none⟩ = some (.slice A1 (ln (ab (na x))) cA1) ∧ w'.cell? ⟨w.heap.size, 2, none⟩ = some (.bool (sn (nb x))) ∧ w'.cell? ⟨w.heap.size, 3, none⟩ = some (.slice A2 (ln (ab (nb x))) cA2) ∧ w'.cell? ⟨w.heap.size, 4, none⟩ = some (.slice A3 (ln (nd x)) cA3) ∧ w'.cell? ⟨w.heap.size + 1, 0, none⟩ = some (.bool (sn (na y))) ∧ w'.cell? ⟨w.heap.size + 1, 1, none⟩ = some (.slice B1 (ln (ab (na y))) cB1) ∧ w'.cell? ⟨w.heap.size + 1, 2, none⟩ = some (.bool (sn (nb y))) ∧ w'.cell? ⟨w.heap.size + 1, 3, none⟩ = some (.slice B2 (ln (ab (nb y))) cB2) ∧ w'.cell? ⟨w.heap.size + 1, 4, none⟩ = some (.slice B3 (ln (nd y)) cB3) ∧ w'.cell? ⟨g0, 0, none⟩ = some (.bool false) ∧ w'.cell? ⟨g0, 1, none⟩ = some (.slice A3 (ln (nd x)) cA3) ∧ w'.cell? ⟨g1, 0, none⟩ = some (.bool false) ∧ w'.cell? ⟨g1, 1, none⟩ = some (.slice B3 (ln (nd y)) cB3)) (first | with_reducible exact ⟨s0_0, s0_1, s0_2, s0_3, s0_4, s1_0, s1_1, s1_2, s1_3, s1_4, t0_0, t0_1, t1_0, t1_1⟩ | with_reducible exact ⟨(keeps (keeps (keeps (keeps (keeps s0_0 n0) n0) n0) n0) n0), (keeps (keeps (keeps (keeps (keeps s0_1 n0) n0) n0) n0) n0), (keeps (keeps (keeps (keeps (keeps s0_2 n0) n0) n0) n0) n0), (keeps (keeps (keeps (keeps (keeps s0_3 n0) n0) n0) n0) n0), (keeps (keeps (keeps (keeps (keeps s0_4 n0) n0) n0) n0) n0), (keeps (keeps (keeps (keeps (keeps s1_0 n1) n1) n1) n1) n1), (keeps (keeps (keeps (keeps (keeps s1_1 n1) n1) n1) n1) n1), (keeps (keeps (keeps (keeps (keeps s1_2 n1) n1) n1) n1) n1), (keeps (keeps (keeps (keeps (keeps s1_3 n1) n1) n1) n1) n1), (keeps (keeps (keeps (keeps (keeps s1_4 n1) n1) n1) n1) n1), (keeps (keeps (keeps (keeps (keeps t0_0 n100) n100) n100) n100) n100), (keeps (keeps (keeps (keeps (keeps t0_1 n100) n100) n100) n100) n100), (keeps (keeps (keeps (keeps (keeps t1_0 n101) n101) n101) n101) n101), (keeps (keeps (keeps (keeps (keeps t1_1 n101) n101) n101) n101) n101)⟩ | exact ⟨s0_0, s0_1, s0_2, s0_3, s0_4, s1_0, s1_1, s1_2, s1_3, s1_4, t0_0, t0_1, t1_0, t1_1⟩) (first
    | (have _ := mk6; go_at_call 100; refine (rmake_any (na x * (nd y : Int) + na y * (nd x : Int)) (nb x * (nd y : Int) + nb y * (nd x : Int)) (nd x * nd y) S3 S6 S7 d3 d6 d7 _ (by exact h3) (by exact h6) (by exact h7) (by have h := (ab_add_ln (K := 274877906944) (Nat.le_trans (ab_muln_ln HSX.out.1 HSY.out.2.2) (by omega)) (Nat.le_trans (ab_muln_ln HSY.out.1 HSX.out.2.2) (by omega))); have h3 := HSX.out; have h4 := HSY.out; unfold sz at h3 h4; omega) (by have h := (ab_add_ln (K := 274877906944) (Nat.le_trans (ab_muln_ln HSX.out.2.1 HSY.out.2.2) (by omega)) (Nat.le_trans (ab_muln_ln HSY.out.2.1 HSX.out.2.2) (by omega))); have h3 := HSX.out; have h4 := HSY.out; unfold sz at h3 h4; omega) (by have h := (nat_mul_ln HSX.out.2.2 HSY.out.2.2); have h3 := HSX.out; have h4 := HSY.out; unfold sz at h3 h4; omega) (Nat.mul_ne_zero (nd_ne0 x) (nd_ne0 y))).mono ?_; rintro e w9 ⟨Z1, Z2, Z3, cZ1, cZ2, cZ3, rfl, h8, hb9⟩; replace s0_0 := keepc hb9 s0_0 l0; replace s0_1 := keepc hb9 s0_1 l0; replace s0_2 := keepc hb9 s0_2 l0; replace s0_3 := keepc hb9 s0_3 l0; replace s0_4 := keepc hb9 s0_4 l0; replace s1_0 := keepc hb9 s1_0 l1; replace s1_1 := keepc hb9 s1_1 l1; replace s1_2 := keepc hb9 s1_2 l1; replace s1_3 := keepc hb9 s1_3 l1; replace s1_4 := keepc hb9 s1_4 l1; replace t0_0 := keepc hb9 t0_0 l100; replace t0_1 := keepc hb9 t0_1 l100; replace t1_0 := keepc hb9 t1_0 l101; replace t1_1 := keepc hb9 t1_1 l101; replace r0 := keepc hb9 r0 l2; replace f0 := keepf hb9 f0 l2; replace r1 := keepc hb9 r1 l2; replace f1 := keepf hb9 f1 l2; replace r2 := keepc hb9 r2 l2; replace f2 := keepf hb9 f2 l2; replace r3 := keepc hb9 r3 l2; replace f3 := keepf hb9 f3 l2; replace r4 := keepc hb9 r4 l2; replace f4 := keepf hb9 f4 l2; replace l0 := Nat.lt_of_lt_of_le l0 hb9.size; replace l1 := Nat.lt_of_lt_of_le l1 hb9.size; replace l2 := Nat.lt_of_lt_of_le l2 hb9.size; replace l100 := Nat.lt_of_lt_of_le l100 hb9.size; replace l101 := Nat.lt_of_lt_of_le l101 hb9.size; replace hx1 := hx1.to hb9; replace hx2 := hx2.to hb9; replace hx3 := hx3.to hb9; replace hy1 := hy1.to hb9; replace hy2 := hy2.to hb9; replace hy3 := hy3.to hb9; replace h1 := h1.to hb9; replace h2 := h2.to hb9; replace h3 := h3.to hb9; replace h4 := h4.to hb9; replace h5 := h5.to hb9; replace h6 := h6.to hb9; replace h7 := h7.to hb9; replace HW := Lib.hid (hstep HW hb9); clear hb9; have mk7 : True := trivial)
    | (have _ := mk5; go_at_call 103; refine (rnatMul_any (nd x) (nd y) A3 B3 cA3 cB3 _ (by exact hx3) (by exact hy3) (by have := HSX.out; unfold sz at this; omega) (by have := HSY.out; unfold sz at this; omega)).mono ?_; rintro e w8 ⟨S7, d7, rfl, h7, hb8⟩; replace s0_0 := keepc hb8 s0_0 l0; replace s0_1 := keepc hb8 s0_1 l0; replace s0_2 := keepc hb8 s0_2 l0; replace s0_3 := keepc hb8 s0_3 l0; replace s0_4 := keepc hb8 s0_4 l0; replace s1_0 := keepc hb8 s1_0 l1; replace s1_1 := keepc hb8 s1_1 l1; replace s1_2 := keepc hb8 s1_2 l1; replace s1_3 := keepc hb8 s1_3 l1; replace s1_4 := keepc hb8 s1_4 l1; replace t0_0 := keepc hb8 t0_0 l100; replace t0_1 := keepc hb8 t0_1 l100; replace t1_0 := keepc hb8 t1_0 l101; replace t1_1 := keepc hb8 t1_1 l101; replace r0 := keepc hb8 r0 l2; replace f0 := keepf hb8 f0 l2; replace r1 := keepc hb8 r1 l2; replace f1 := keepf hb8 f1 l2; replace r2 := keepc hb8 r2 l2; replace f2 := keepf hb8 f2 l2; replace r3 := keepc hb8 r3 l2; replace f3 := keepf hb8 f3 l2; replace r4 := keepc hb8 r4 l2; replace f4 := keepf hb8 f4 l2; replace l0 := Nat.lt_of_lt_of_le l0 hb8.size; replace l1 := Nat.lt_of_lt_of_le l1 hb8.size; replace l2 := Nat.lt_of_lt_of_le l2 hb8.size; replace l100 := Nat.lt_of_lt_of_le l100 hb8.size; replace l101 := Nat.lt_of_lt_of_le l101 hb8.size; replace hx1 := hx1.to hb8; replace hx2 := hx2.to hb8; replace hx3 := hx3.to hb8; replace hy1 := hy1.to hb8; replace hy2 := hy2.to hb8; replace hy3 := hy3.to hb8; replace h1 := h1.to hb8; replace h2 := h2.to hb8; replace h3 := h3.to hb8; replace h4 := h4.to hb8; replace h5 := h5.to hb8; replace h6 := h6.to hb8; replace HW := Lib.hid (hstep HW hb8); clear hb8; have mk6 : True := trivial)
    | (have _ := mk4; go_at_call 101; refine (rplus_any (nb x * (nd y : Int)) (nb y * (nd x : Int)) S4 S5 d4 d5 _ (by exact h4) (by exact h5) (by have h := ((ab_muln_ln HSX.out.2.1 HSY.out.2.2)); have h3 := HSX.out; have h4 := HSY.out; unfold sz at h3 h4; omega) (by have h := ((ab_muln_ln HSY.out.2.1 HSX.out.2.2)); have h3 := HSX.out; have h4 := HSY.out; unfold sz at h3 h4; omega)).mono ?_; rintro e w7 ⟨S6, d6, rfl, h6, hb7⟩; replace s0_0 := keepc hb7 s0_0 l0; replace s0_1 := keepc hb7 s0_1 l0; replace s0_2 := keepc hb7 s0_2 l0; replace s0_3 := keepc hb7 s0_3 l0; replace s0_4 := keepc hb7 s0_4 l0; replace s1_0 := keepc hb7 s1_0 l1; replace s1_1 := keepc hb7 s1_1 l1; replace s1_2 := keepc hb7 s1_2 l1; replace s1_3 := keepc hb7 s1_3 l1; replace s1_4 := keepc hb7 s1_4 l1; replace t0_0 := keepc hb7 t0_0 l100; replace t0_1 := keepc hb7 t0_1 l100; replace t1_0 := keepc hb7 t1_0 l101; replace t1_1 := keepc hb7 t1_1 l101; replace r0 := keepc hb7 r0 l2; replace f0 := keepf hb7 f0 l2; replace r1 := keepc hb7 r1 l2; replace f1 := keepf hb7 f1 l2; replace r2 := keepc hb7 r2 l2; replace f2 := keepf hb7 f2 l2; replace r3 := keepc hb7 r3 l2; replace f3 := keepf hb7 f3 l2; replace r4 := keepc hb7 r4 l2; replace f4 := keepf hb7 f4 l2; replace l0 := Nat.lt_of_lt_of_le l0 hb7.size; replace l1 := Nat.lt_of_lt_of_le l1 hb7.size; replace l2 := Nat.lt_of_lt_of_le l2 hb7.size; replace l100 := Nat.lt_of_lt_of_le l100 hb7.size; replace l101 := Nat.lt_of_lt_of_le l101 hb7.size; replace hx1 := hx1.to hb7; replace hx2 := hx2.to hb7; replace hx3 := hx3.to hb7; replace hy1 := hy1.to hb7; replace hy2 := hy2.to hb7; replace hy3 := hy3.to hb7; replace h1 := h1.to hb7; replace h2 := h2.to hb7; replace h3 := h3.to hb7; replace h4 := h4.to hb7; replace h5 := h5.to hb7; replace HW := Lib.hid (hstep HW hb7); clear hb7; have mk5 : True := trivial)
    | (have _ := mk3; go_at_call 102; refine (rtimes_n (nb y) (nd x) B2 A3 cB2 cA3 _ (by exact hy2) (by exact hx3) (by have := HSY.out; unfold sz at this; omega) (by have := HSX.out; unfold sz at this; omega)).mono ?_; rintro e w6 ⟨S5, d5, rfl, h5, hb6⟩; replace s0_0 := keepc hb6 s0_0 l0; replace s0_1 := keepc hb6 s0_1 l0; replace s0_2 := keepc hb6 s0_2 l0; replace s0_3 := keepc hb6 s0_3 l0; replace s0_4 := keepc hb6 s0_4 l0; replace s1_0 := keepc hb6 s1_0 l1; replace s1_1 := keepc hb6 s1_1 l1; replace s1_2 := keepc hb6 s1_2 l1; replace s1_3 := keepc hb6 s1_3 l1; replace s1_4 := keepc hb6 s1_4 l1; replace t0_0 := keepc hb6 t0_0 l100; replace t0_1 := keepc hb6 t0_1 l100; replace t1_0 := keepc hb6 t1_0 l101; replace t1_1 := keepc hb6 t1_1 l101; replace r0 := keepc hb6 r0 l2; replace f0 := keepf hb6 f0 l2; replace r1 := keepc hb6 r1 l2; replace f1 := keepf hb6 f1 l2; replace r2 := keepc hb6 r2 l2; replace f2 := keepf hb6 f2 l2; replace r3 := keepc hb6 r3 l2; replace f3 := keepf hb6 f3 l2; replace r4 := keepc hb6 r4 l2; replace f4 := keepf hb6 f4 l2; replace l0 := Nat.lt_of_lt_of_le l0 hb6.size; replace l1 := Nat.lt_of_lt_of_le l1 hb6.size; replace l2 := Nat.lt_of_lt_of_le l2 hb6.size; replace l100 := Nat.lt_of_lt_of_le l100 hb6.size; replace l101 := Nat.lt_of_lt_of_le l101 hb6.size; replace hx1 := hx1.to hb6; replace hx2 := hx2.to hb6; replace hx3 := hx3.to hb6; replace hy1 := hy1.to hb6; replace hy2 := hy2.to hb6; replace hy3 := hy3.to hb6; replace h1 := h1.to hb6; replace h2 := h2.to hb6; replace h3 := h3.to hb6; replace h4 := h4.to hb6; replace HW := Lib.hid (hstep HW hb6); clear hb6; have mk4 : True := trivial)
    | (have _ := mk2; go_at_call 102; refine (rtimes_n (nb x) (nd y) A2 B3 cA2 cB3 _ (by exact hx2) (by exact hy3) (by have := HSX.out; unfold sz at this; omega) (by have := HSY.out; unfold sz at this; omega)).mono ?_; rintro e w5 ⟨S4, d4, rfl, h4, hb5⟩; replace s0_0 := keepc hb5 s0_0 l0; replace s0_1 := keepc hb5 s0_1 l0; replace s0_2 := keepc hb5 s0_2 l0; replace s0_3 := keepc hb5 s0_3 l0; replace s0_4 := keepc hb5 s0_4 l0; replace s1_0 := keepc hb5 s1_0 l1; replace s1_1 := keepc hb5 s1_1 l1; replace s1_2 := keepc hb5 s1_2 l1; replace s1_3 := keepc hb5 s1_3 l1; replace s1_4 := keepc hb5 s1_4 l1; replace t0_0 := keepc hb5 t0_0 l100; replace t0_1 := keepc hb5 t0_1 l100; replace t1_0 := keepc hb5 t1_0 l101; replace t1_1 := keepc hb5 t1_1 l101; replace r0 := keepc hb5 r0 l2; replace f0 := keepf hb5 f0 l2; replace r1 := keepc hb5 r1 l2; replace f1 := keepf hb5 f1 l2; replace r2 := keepc hb5 r2 l2; replace f2 := keepf hb5 f2 l2; replace r3 := keepc hb5 r3 l2; replace f3 := keepf hb5 f3 l2; replace r4 := keepc hb5 r4 l2; replace f4 := keepf hb5 f4 l2; replace l0 := Nat.lt_of_lt_of_le l0 hb5.size; replace l1 := Nat.lt_of_lt_of_le l1 hb5.size; replace l2 := Nat.lt_of_lt_of_le l2 hb5.size; replace l100 := Nat.lt_of_lt_of_le l100 hb5.size; replace l101 := Nat.lt_of_lt_of_le l101 hb5.size; replace hx1 := hx1.to hb5; replace hx2 := hx2.to hb5; replace hx3 := hx3.to hb5; replace hy1 := hy1.to hb5; replace hy2 := hy2.to hb5; replace hy3 := hy3.to hb5; replace h1 := h1.to hb5; replace h2 := h2.to hb5; replace h3 := h3.to hb5; replace HW := Lib.hid (hstep HW hb5); clear hb5; have mk3 : True := trivial)
    | (have _ := mk1; go_at_call 101; refine (rplus_any (na x * (nd y : Int)) (na y * (nd x : Int)) S1 S2 d1 d2 _ (by exact h1) (by exact h2) (by have h := ((ab_muln_ln HSX.out.1 HSY.out.2.2)); have h3 := HSX.out; have h4 := HSY.out; unfold sz at h3 h4; omega) (by have h := ((ab_muln_ln HSY.out.1 HSX.out.2.2)); have h3 := HSX.out; have h4 := HSY.out; unfold sz at h3 h4; omega)).mono ?_; rintro e w4 ⟨S3, d3, rfl, h3, hb4⟩; replace s0_0 := keepc hb4 s0_0 l0; replace s0_1 := keepc hb4 s0_1 l0; replace s0_2 := keepc hb4 s0_2 l0; replace s0_3 := keepc hb4 s0_3 l0; replace s0_4 := keepc hb4 s0_4 l0; replace s1_0 := keepc hb4 s1_0 l1; replace s1_1 := keepc hb4 s1_1 l1; replace s1_2 := keepc hb4 s1_2 l1; replace s1_3 := keepc hb4 s1_3 l1; replace s1_4 := keepc hb4 s1_4 l1; replace t0_0 := keepc hb4 t0_0 l100; replace t0_1 := keepc hb4 t0_1 l100; replace t1_0 := keepc hb4 t1_0 l101; replace t1_1 := keepc hb4 t1_1 l101; replace r0 := keepc hb4 r0 l2; replace f0 := keepf hb4 f0 l2; replace r1 := keepc hb4 r1 l2; replace f1 := keepf hb4 f1 l2; replace r2 := keepc hb4 r2 l2; replace f2 := keepf hb4 f2 l2; replace r3 := keepc hb4 r3 l2; replace f3 := keepf hb4 f3 l2; replace r4 := keepc hb4 r4 l2; replace f4 := keepf hb4 f4 l2; replace l0 := Nat.lt_of_lt_of_le l0 hb4.size; replace l1 := Nat.lt_of_lt_of_le l1 hb4.size; replace l2 := Nat.lt_of_lt_of_le l2 hb4.size; replace l100 := Nat.lt_of_lt_of_le l100 hb4.size; replace l101 := Nat.lt_of_lt_of_le l101 hb4.size; replace hx1 := hx1.to hb4; replace hx2 := hx2.to hb4; replace hx3 := hx3.to hb4; replace hy1 := hy1.to hb4; replace hy2 := hy2.to hb4; replace hy3 := hy3.to hb4; replace h1 := h1.to hb4; replace h2 := h2.to hb4; replace HW := Lib.hid (hstep HW hb4); clear hb4; have mk2 : True := trivial)
    | (have _ := mk0; go_at_call 102; refine (rtimes_n (na y) (nd x) B1 A3 cB1 cA3 _ (by exact hy1) (by exact hx3) (by have := HSY.out; unfold sz at this; omega) (by have := HSX.out; unfold sz at this; omega)).mono ?_; rintro e w3 ⟨S2, d2, rfl, h2, hb3⟩; replace s0_0 := keepc hb3 s0_0 l0; replace s0_1 := keepc hb3 s0_1 l0; replace s0_2 := keepc hb3 s0_2 l0; replace s0_3 := keepc hb3 s0_3 l0; replace s0_4 := keepc hb3 s0_4 l0; replace s1_0 := keepc hb3 s1_0 l1; replace s1_1 := keepc hb3 s1_1 l1; replace s1_2 := keepc hb3 s1_2 l1; replace s1_3 := keepc hb3 s1_3 l1; replace s1_4 := keepc hb3 s1_4 l1; replace t0_0 := keepc hb3 t0_0 l100; replace t0_1 := keepc hb3 t0_1 l100; replace t1_0 := keepc hb3 t1_0 l101; replace t1_1 := keepc hb3 t1_1 l101; replace r0 := keepc hb3 r0 l2; replace f0 := keepf hb3 f0 l2; replace r1 := keepc hb3 r1 l2; replace f1 := keepf hb3 f1 l2; replace r2 := keepc hb3 r2 l2; replace f2 := keepf hb3 f2 l2; replace r3 := keepc hb3 r3 l2; replace f3 := keepf hb3 f3 l2; replace r4 := keepc hb3 r4 l2; replace f4 := keepf hb3 f4 l2; replace l0 := Nat.lt_of_lt_of_le l0 hb3.size; replace l1 := Nat.lt_of_lt_of_le l1 hb3.size; replace l2 := Nat.lt_of_lt_of_le l2 hb3.size; replace l100 := Nat.lt_of_lt_of_le l100 hb3.size; replace l101 := Nat.lt_of_lt_of_le l101 hb3.size; replace hx1 := hx1.to hb3; replace hx2 := hx2.to hb3; replace hx3 := hx3.to hb3; replace hy1 := hy1.to hb3; replace hy2 := hy2.to hb3; replace hy3 := hy3.to hb3; replace h1 := h1.to hb3; replace HW := Lib.hid (hstep HW hb3); clear hb3; have mk1 : True := trivial)
    | (go_at_call 102; refine (rtimes_n (na x) (nd y) A1 B3 cA1 cB3 _ (by exact hx1) (by exact hy3) (by have := HSX.out; unfold sz at this; omega) (by have := HSY.out; unfold sz at this; omega)).mono ?_; rintro e w2 ⟨S1, d1, rfl, h1, hb2⟩; have hb2 := undrew hb2; replace s0_0 := keepc hb2 s0_0 l0; replace s0_1 := keepc hb2 s0_1 l0; replace s0_2 := keepc hb2 s0_2 l0; replace s0_3 := keepc hb2 s0_3 l0; replace s0_4 := keepc hb2 s0_4 l0; replace s1_0 := keepc hb2 s1_0 l1; replace s1_1 := keepc hb2 s1_1 l1; replace s1_2 := keepc hb2 s1_2 l1; replace s1_3 := keepc hb2 s1_3 l1; replace s1_4 := keepc hb2 s1_4 l1; replace t0_0 := keepc hb2 t0_0 l100; replace t0_1 := keepc hb2 t0_1 l100; replace t1_0 := keepc hb2 t1_0 l101; replace t1_1 := keepc hb2 t1_1 l101; replace r0 := keepc hb2 r0 l2; replace f0 := keepf hb2 f0 l2; replace r1 := keepc hb2 r1 l2; replace f1 := keepf hb2 f1 l2; replace r2 := keepc hb2 r2 l2; replace f2 := keepf hb2 f2 l2; replace r3 := keepc hb2 r3 l2; replace f3 := keepf hb2 f3 l2; replace r4 := keepc hb2 r4 l2; replace f4 := keepf hb2 f4 l2; replace l0 := Nat.lt_of_lt_of_le l0 hb2.size; replace l1 := Nat.lt_of_lt_of_le l1 hb2.size; replace l2 := Nat.lt_of_lt_of_le l2 hb2.size; replace l100 := Nat.lt_of_lt_of_le l100 hb2.size; replace l101 := Nat.lt_of_lt_of_le l101 hb2.size; replace hx1 := hx1.to hb2; replace hx2 := hx2.to hb2; replace hx3 := hx3.to hb2; replace hy1 := hy1.to hb2; replace hy2 := hy2.to hb2; replace hy3 := hy3.to hb2; replace HW := Lib.hid (hstep HW hb2); clear hb2; have mk0 : True := trivial))
  go_wp2_with fail
  exact bodyPost_ret (v := .agg #[.bool (sn (na (fr (na x * (nd y : Int) + na y * (nd x : Int)) (nb x * (nd y : Int) + nb y * (nd x : Int)) (nd x * nd y)))), .slice Z1 (ln (ab (na (fr (na x * (nd y : Int) + na y * (nd x : Int)) (nb x * (nd y : Int) + nb y * (nd x : Int)) (nd x * nd y))))) cZ1, .bool (sn (nb (fr (na x * (nd y : Int) + na y * (nd x : Int)) (nb x * (nd y : Int) + nb y * (nd x : Int)) (nd x * nd y)))), .slice Z2 (ln (ab (nb (fr (na x * (nd y : Int) + na y * (nd x : Int)) (nb x * (nd y : Int) + nb y * (nd x : Int)) (nd x * nd y))))) cZ2, .slice Z3 (ln (nd (fr (na x * (nd y : Int) + na y * (nd x : Int)) (nb x * (nd y : Int) + nb y * (nd x : Int)) (nd x * nd y)))) cZ3]) (by simp [results, Tryz.results27, go_sem, r0, r1, r2, r3, r4, f0, f1, f2, f3, f4]) rfl (retNumC_fin HW h8 (by omega) r0)

theorem rmake_re (z : Int) (d : Nat) (A D : Option Addr) (cA cD : Nat) (w : World) (hx : Nat32 w A (ab z)) (hd : Nat32 w D d) (hbx : ln (ab z) ≤ 1099511627776) (hbd : ln d ≤ 1099511627776) (hd0 : d ≠ 0) :
    Calls Tryz.prog 100 #[.agg #[.bool (sn z), .slice A (ln (ab z)) cA], .agg #[.bool false, .slice none 0 0], .slice D (ln d) cD] w (RetNumC w (fr z 0 d)) := by
  have h := rmake_any z 0 d A none D cA 0 cD w hx (Nat32.zero _ _) hd hbx (by show ln 0 ≤ _; rw [ln_zero]; omega) hbd hd0
  rw [show ab 0 = 0 from rfl, ln_zero, show sn 0 = false from rfl] at h
  exact h
theorem rmake_im (z : Int) (d : Nat) (A D : Option Addr) (cA cD : Nat) (w : World) (hx : Nat32 w A (ab z)) (hd : Nat32 w D d) (hbx : ln (ab z) ≤ 1099511627776) (hbd : ln d ≤ 1099511627776) (hd0 : d ≠ 0) :
    Calls Tryz.prog 100 #[.agg #[.bool false, .slice none 0 0], .agg #[.bool (sn z), .slice A (ln (ab z)) cA], .slice D (ln d) cD] w (RetNumC w (fr 0 z d)) := by
  have h := rmake_any 0 z d none A D 0 cA cD w (Nat32.zero _ _) hx hd (by show ln 0 ≤ _; rw [ln_zero]; omega) hbx hbd hd0
  rw [show ab 0 = 0 from rfl, ln_zero, show sn 0 = false from rfl] at h
  exact h

end Go.Proofs.YtgpmlhpgdalheaaGreat

namespace Go.Proofs.YtgpmlhpgdalheaaGreat
open Go.RowKit Pl
set_option linter.unusedVariables false
set_option linter.unusedSimpArgs false

theorem rmP_le (l : List UInt8) : (rmP l).2.2 ≤ l.length := by
  rcases ag l with ⟨_, _, _, _, h, _⟩ | ⟨_, h⟩
  · exact h
  · rcases h with h | ⟨h, _⟩
    · omega
    · exact h
theorem rmE_ln {S : List UInt8} {D K n : Nat} {r : List UInt8} (hS : ∀ c ∈ S, dgt c = true) (hl : S.length ≤ K) (hD : ln D ≤ K) : ln (rmE S D n r).1 ≤ K + 1000 ∧ ln (rmE S D n r).2.1 ≤ K + 1000 := by
  have hs := ln_vd hS
  unfold rmE
  split
  · exact ⟨by show ln (vd S) ≤ _; omega, by show ln D ≤ _; omega⟩
  · split
    · exact ⟨by show ln 0 ≤ _; rw [ln_zero]; omega, by show ln 0 ≤ _; rw [ln_zero]; omega⟩
    · rename_i h
      have hv : vd ((sgr r.tail).take (whl (sgr r.tail))) ≤ 400 := by omega
      have hp := ln_pow10 (vd ((sgr r.tail).take (whl (sgr r.tail))))
      split
      · exact ⟨by show ln (vd S) ≤ _; omega, Nat.le_trans (nat_mul_ln hD hp) (by omega)⟩
      · exact ⟨Nat.le_trans (nat_mul_ln hs hp) (by omega), by show ln D ≤ _; omega⟩
theorem rmP_ln {l : List UInt8} {K : Nat} (h : l.length + 2 ≤ K) : ln (rmP l).1 ≤ K + 1000 ∧ ln (rmP l).2.1 ≤ K + 1000 := by
  have hw := whl_le l
  have hd := whl_dgt l
  have hz : ln 0 ≤ K + 1000 := by rw [ln_zero]; omega
  have ht : (l.take (whl l)).length = whl l := by simp; omega
  unfold rmP
  split
  · exact ⟨hz, hz⟩
  · have hr : (l.drop (whl l)).tail.length ≤ l.length - whl l := by simp; omega
    split
    · split
      · exact ⟨hz, hz⟩
      · have h1 := ln_vd hd
        have h2 := ln_vd (whl_dgt (l.drop (whl l)).tail)
        have h3 := whl_le (l.drop (whl l)).tail
        have h4 : ((l.drop (whl l)).tail.take (whl (l.drop (whl l)).tail)).length ≤ (l.drop (whl l)).tail.length := by rw [List.length_take]; omega
        exact ⟨by show ln (vd (l.take (whl l))) ≤ _; omega, by show ln (vd ((l.drop (whl l)).tail.take _)) ≤ _; omega⟩
    · split
      · split
        · exact ⟨hz, hz⟩
        · have h1 := dgs_le (l.drop (whl l)).tail
          have h2 := ln_pow10 (dgs (l.drop (whl l)).tail).length
          refine rmE_ln (fun c hc => ?_) (by rw [List.length_append]; omega) (by omega)
          rcases List.mem_append.1 hc with h | h
          · exact hd c h
          · exact dgs_dgt c h
      · exact rmE_ln hd (by omega) (by rw [ln_one]; omega)
/-- A call hands back numerator, denominator and length. -/
def RetMag3 (w : World) (n d k : Nat) (e : Ending) (w' : World) : Prop := ∃ A cA B cB, e = .returned (.tuple #[.slice A (ln n) cA, .slice B (ln d) cB, .int .i64 (k : Nat)]) ∧ Nat32 w' A n ∧ Nat32 w' B d ∧ Below w.heap.size w w'
theorem rmag_is (l : List UInt8) (n d k : Nat) (hP : rmP l = (n, d, k)) (w : World) (hs : l.length ≤ 1000000) : Calls Tryz.prog 143 #[.string (bs l)] w (RetMag3 w n d k) := by
  have h := rmag_all l w hs
  rw [hP] at h; exact h
theorem bne_of {a b : Int} {c : Bool} (h : (a == b) = c) : (a != b) = !c := by rw [← h]; rfl
theorem prop_of {a b : Int} {c : Bool} (h : (a == b) = c) : decide (a = b) = c := by rw [← h]; by_cases k : a = b <;> simp [k]
theorem rsigned_is (s : Bool) (n : Nat) (z : Int) (hz : z = zi s n) (A : Option Addr) (c : Nat) (w : World) (h : Nat32 w A n) :
    Calls Tryz.prog 117 #[.bool s, .slice A (ln n) c] w (RetWholeC w z) := by rw [hz]; exact rsigned_any s n A c w h
set_option maxRecDepth 100000 in
set_option maxHeartbeats 4000000 in
theorem rparse_main (l : List UInt8) (w : World) (hs : l.length ≤ 4096) (K : Int) (Q : Cx) (hKQ : (K, Q) = parseR l) :
    Calls Tryz.prog 85 #[.string (bs l)] w (RetNumCE w K Q) := by
  obtain ⟨q, hq⟩ : ∃ q, sgr l = q := ⟨_, rfl⟩
  obtain ⟨neg, hneg⟩ : ∃ neg, decide (l.head? = some 45) = neg := ⟨_, rfl⟩
  obtain ⟨⟨n, d, k⟩, hP⟩ : ∃ p, rmP q = p := ⟨_, rfl⟩
  have HKQ : Hid ((K, Q) = if k = 0 then (2, Cx.zero) else parseRB neg n d (q.drop k)) := Lib.hid (by rw [hKQ]; unfold parseR; rw [if_neg (show ¬ 4096 < l.length by omega), hq, hneg, hP])
  clear hKQ
  have HS := Lib.hid hs
  have HQ := Lib.hid hq
  have HNG := Lib.hid hneg
  have HP := Lib.hid hP
  obtain ⟨at0, HAT⟩ : ∃ a0, Hid (a0 = if neg = true then 1 else 0) := ⟨_, Lib.hid rfl⟩
  have h0 : l.drop at0 = q ∧ at0 ≤ l.length := by
    rw [HAT.out, ← hq, ← hneg]
    unfold sgr
    cases l with
    | nil => simp
    | cons c t =>
      by_cases h : c = 45
      · subst h; simp
      · simp [h]
  have HD0 := Lib.hid h0.1
  have hql : q.length = l.length - at0 := by rw [← h0.1, List.length_drop]
  have HQL : Hid (q.length ≤ 4096) := Lib.hid (by omega)
  have s0 : at0 ≤ (bs l).size := by rw [bs_size]; exact h0.2
  have t0 : decide ((4096 : Int) < ((bs l).size : Int)) = false := decide_eq_false (by rw [bs_size]; omega)
  have hkl : k ≤ q.length := by have := rmP_le q; rw [hP] at this; exact this
  have hln := rmP_ln (l := q) (K := 4098) (by omega)
  rw [hP] at hln
  have HLN : Hid (ln n ≤ 5098 ∧ ln d ≤ 5098) := Lib.hid hln
  have HB0 : Hid (at0 ≤ l.length ∧ k ≤ l.length - at0) := Lib.hid ⟨h0.2, by omega⟩
  clear hs hq hneg hP h0 hql hkl hln
  go_enter Tryz.func85, Tryz.ntmps85
  go_upto_region 3 with fail
  obtain ⟨W, hW⟩ : ∃ W : World, W = (w.alloc (.cells #[.bool false, .slice none 0 0, .bool false, .slice none 0 0, .slice none 0 0] 34)) := ⟨_, rfl⟩
  have rr : NewVarN 0 w.heap.size W := by subst hW; exact ⟨Nat.zero_le _, by simp, ⟨by go_simp, by go_simp, by go_simp, by go_simp, by go_simp⟩, by go_simp, by go_simp, by go_simp, by go_simp, by go_simp⟩
  have HW : Below w.heap.size w W := by subst hW; exact ((Below.refl w.heap.size w).alloc (Nat.le_refl _) _)
  rw [← hW]
  clear hW
  replace HW := Lib.hid HW
  go_cut [4] (fun b wx => b = .bool neg ∧ wx = W)
  case first =>
    by_cases hlt : 0 < (bs l).size
    · have t1 : (((bs l)[0].toNat : Int) == 45) = neg := (head_at (List.drop_zero (l := l)) hlt 45).trans HNG.out
      go_wp2_with fail
      go_meet
      exact ⟨by simp [t1], rfl⟩
    · have t1 : neg = false := HNG.out.symm.trans (head_out (List.drop_zero (l := l)) hlt 45)
      go_wp2_with fail
      go_meet
      exact ⟨by rw [t1], rfl⟩
  case rest =>
  obtain ⟨hc1, hc2⟩ := hcut
  subst hc1
  rw [hc2]
  clear hc2 wc
  go_upto_if 25 with fail
  go_cut [5] (fun a wx => a = .int .i64 (at0 : Nat) ∧ wx = W)
  case first =>
    cases neg with
    | true =>
      have e : at0 = 1 := HAT.out.trans (if_pos rfl)
      go_wp2_with fail
      go_meet
      exact ⟨by rw [e]; rfl, rfl⟩

    | false =>
      have e : at0 = 0 := HAT.out.trans (if_neg (by simp))
      go_wp2_with fail
      go_meet
      exact ⟨by rw [e]; rfl, rfl⟩
  case rest =>
  obtain ⟨hc1, hc2⟩ := hcut
  subst hc1
  rw [hc2]
  clear hc2 wc
  go_wp2_with fail
  rw [bs_suf, HD0.out]
  refine (rmag_is q n d k HP.out _ (by have := HQL.out; omega)).mono ?_
  rintro e w1 ⟨A1, c1, A2, c2, rfl, hA1, hA2, hb1⟩
  replace rr := rr.to hb1
  replace HW := Lib.hid (hstep HW hb1)
  clear hb1
  by_cases hk0 : k = 0
  · have k0 := beq0 hk0
    obtain ⟨E1, E2⟩ := kq (HKQ.out.trans (if_pos hk0))
    clear hk0
    go_wp2_with fail
    refine (rwhole_any 0 _ (by omega) (by omega)).mono ?_
    rintro e w2 ⟨Z1, Z2, Z3, cZ1, cZ2, cZ3, rfl, hz, hb2⟩
    replace rr := rr.to hb2
    replace hA1 := hA1.to hb2
    replace hA2 := hA2.to hb2
    replace HW := Lib.hid (hstep HW hb2)
    clear hb2
    obtain ⟨_, lR, ⟨r0, r1, r2, r3, r4⟩, f0, f1, f2, f3, f4⟩ := id rr
    go_wp2_with fail
    exact bodyPost_ret (v := .tuple #[.agg #[.bool (sn (na (Cx.ofInt 0))), .slice Z1 (ln (ab (na (Cx.ofInt 0)))) cZ1, .bool (sn (nb (Cx.ofInt 0))), .slice Z2 (ln (ab (nb (Cx.ofInt 0)))) cZ2, .slice Z3 (ln (nd (Cx.ofInt 0))) cZ3], .int .i64 2]) (by simp [results, Tryz.results85, go_sem, r0, r1, r2, r3, r4, f0, f1, f2, f3, f4]) rfl (by rw [E1, E2]; exact retNumCE_fin (q := Cx.ofInt 0) HW hz (by omega) r0)
  · have k0 := bne0 hk0
    replace HKQ := Lib.hid (HKQ.out.trans (if_neg hk0))
    obtain ⟨r, hr⟩ : ∃ r, q.drop k = r := ⟨_, rfl⟩
    rw [hr] at HKQ
    obtain ⟨at1, hat1⟩ : ∃ a1, a1 = at0 + k := ⟨_, rfl⟩
    have h1 : l.drop at1 = r := by rw [hat1]; exact drop_more HD0.out hr
    have h2 : at1 ≤ l.length := by have := HB0.out; omega
    have hrl : r.length = l.length - at1 := by rw [← h1, List.length_drop]
    have HD1 := Lib.hid h1
    have s1 : at1 ≤ (bs l).size := by rw [bs_size]; exact h2
    have V1 : at0 + k ≤ 4000000 := by have := HB0.out; have := HS.out; omega
    have HX1 : Hid ((bs l).extract at1 (bs l).size = bs r) := Lib.hid (by rw [bs_suf, h1])
    have HL := Lib.hid hrl
    clear hk0 hr
    cases r with
    | nil =>
      have q1 : ((at1 : Int) == ((bs l).size : Int)) = true := by rw [beq_iff_eq, bs_size]; simp at hrl; omega
      by_cases hd : d = 0
      · skip
        have d0 := beq0 (show ln d = 0 by rw [hd, ln_zero])
        obtain ⟨E1, E2⟩ := kq (HKQ.out.trans ((by unfold parseRB; rw [if_pos rfl]; rw [if_pos hd] : _ = ((3 : Int), Cx.zero))))
        have W1 : wrap64 ((at0 : Int) + k) = (at1 : Nat) := by rw [hat1]; exact wrap_two V1
        clear V1 hat1 h1 h2 hrl HL
        clear hd
        go_wp2_with fail
        refine (rwhole_any 0 _ (by omega) (by omega)).mono ?_
        rintro e w2 ⟨Z1, Z2, Z3, cZ1, cZ2, cZ3, rfl, hz, hb2⟩
        replace rr := rr.to hb2
        replace hA1 := hA1.to hb2
        replace hA2 := hA2.to hb2
        replace HW := Lib.hid (hstep HW hb2)
        clear hb2
        obtain ⟨_, lR, ⟨r0, r1, r2, r3, r4⟩, f0, f1, f2, f3, f4⟩ := id rr
        go_wp2_with fail
        exact bodyPost_ret (v := .tuple #[.agg #[.bool (sn (na (Cx.ofInt 0))), .slice Z1 (ln (ab (na (Cx.ofInt 0)))) cZ1, .bool (sn (nb (Cx.ofInt 0))), .slice Z2 (ln (ab (nb (Cx.ofInt 0)))) cZ2, .slice Z3 (ln (nd (Cx.ofInt 0))) cZ3], .int .i64 3]) (by simp [results, Tryz.results85, go_sem, r0, r1, r2, r3, r4, f0, f1, f2, f3, f4]) rfl (by rw [E1, E2]; exact retNumCE_fin (q := Cx.ofInt 0) HW hz (by omega) r0)
      · skip
        have d0 := bne0 (fun e => hd (ln_eq0 e))
        have HD := Lib.hid hd
        replace HKQ := Lib.hid (HKQ.out.trans (by unfold parseRB; rw [if_pos rfl]; rw [if_neg hd] : _ = ((0 : Int), fr (zi neg n) 0 d)))
        obtain ⟨z, hz⟩ : ∃ z, z = zi neg n := ⟨_, rfl⟩
        rw [← hz] at HKQ
        have HZ := Lib.hid hz
        have HZL : Hid (ln (ab z) ≤ 5098) := Lib.hid (by rw [hz, zi_ab]; exact HLN.out.1)
        clear hz
        obtain ⟨E1, E2⟩ := kq HKQ.out
        have W1 : wrap64 ((at0 : Int) + k) = (at1 : Nat) := by rw [hat1]; exact wrap_two V1
        clear V1 hat1 h1 h2 hrl HL
        clear hd
        go_wp2_with fail
        refine (rsigned_is neg n z HZ.out A1 c1 _ (by exact hA1)).mono ?_
        rintro e w2 ⟨A3, c3, rfl, hA3, hb2⟩
        replace rr := rr.to hb2
        replace hA1 := hA1.to hb2
        replace hA2 := hA2.to hb2
        replace HW := Lib.hid (hstep HW hb2)
        clear hb2
        go_wp2_with fail
        refine (rmake_re z d A3 A2 c3 c2 _ (by exact hA3) (by exact hA2) (by have := HZL.out; omega) (by have := HLN.out.2; omega) HD.out).mono ?_
        rintro e w3 ⟨Z1, Z2, Z3, cZ1, cZ2, cZ3, rfl, hz, hb3⟩
        replace rr := rr.to hb3
        replace hA1 := hA1.to hb3
        replace hA2 := hA2.to hb3
        replace hA3 := hA3.to hb3
        replace HW := Lib.hid (hstep HW hb3)
        clear hb3
        obtain ⟨_, lR, ⟨r0, r1, r2, r3, r4⟩, f0, f1, f2, f3, f4⟩ := id rr
        go_wp2_with fail
        exact bodyPost_ret (v := .tuple #[.agg #[.bool (sn (na (fr z 0 d))), .slice Z1 (ln (ab (na (fr z 0 d)))) cZ1, .bool (sn (nb (fr z 0 d))), .slice Z2 (ln (ab (nb (fr z 0 d)))) cZ2, .slice Z3 (ln (nd (fr z 0 d))) cZ3], .int .i64 0]) (by simp [results, Tryz.results85, go_sem, r0, r1, r2, r3, r4, f0, f1, f2, f3, f4]) rfl (by rw [E1, E2]; exact retNumCE_fin (q := fr z 0 d) HW hz (by omega) r0)
    | cons c t =>
      have hlt : at1 < l.length := drop_len h1 (by simp)
      have q1 : ((at1 : Int) == ((bs l).size : Int)) = false := by rw [beq_eq_false_iff_ne, bs_size]; omega
      have q2 : at1 < (bs l).size := by rw [bs_size]; exact hlt
      by_cases hci : c :: t = [105]
      · have X2 : ((bs l).extract at1 (bs l).size).toList = [105] := by rw [HX1.out, bs_toList]; exact hci
        by_cases hd : d = 0
        · skip
          have d0 := beq0 (show ln d = 0 by rw [hd, ln_zero])
          obtain ⟨E1, E2⟩ := kq (HKQ.out.trans ((by unfold parseRB; rw [if_neg (by simp), if_pos hci]; rw [if_pos hd] : _ = ((3 : Int), Cx.zero))))
          have W1 : wrap64 ((at0 : Int) + k) = (at1 : Nat) := by rw [hat1]; exact wrap_two V1
          clear V1 hat1 h1 h2 hrl HL
          clear hd
          go_wp2_with fail
          refine (rwhole_any 0 _ (by omega) (by omega)).mono ?_
          rintro e w2 ⟨Z1, Z2, Z3, cZ1, cZ2, cZ3, rfl, hz, hb2⟩
          replace rr := rr.to hb2
          replace hA1 := hA1.to hb2
          replace hA2 := hA2.to hb2
          replace HW := Lib.hid (hstep HW hb2)
          clear hb2
          obtain ⟨_, lR, ⟨r0, r1, r2, r3, r4⟩, f0, f1, f2, f3, f4⟩ := id rr
          go_wp2_with fail
          exact bodyPost_ret (v := .tuple #[.agg #[.bool (sn (na (Cx.ofInt 0))), .slice Z1 (ln (ab (na (Cx.ofInt 0)))) cZ1, .bool (sn (nb (Cx.ofInt 0))), .slice Z2 (ln (ab (nb (Cx.ofInt 0)))) cZ2, .slice Z3 (ln (nd (Cx.ofInt 0))) cZ3], .int .i64 3]) (by simp [results, Tryz.results85, go_sem, r0, r1, r2, r3, r4, f0, f1, f2, f3, f4]) rfl (by rw [E1, E2]; exact retNumCE_fin (q := Cx.ofInt 0) HW hz (by omega) r0)
        · skip
          have d0 := bne0 (fun e => hd (ln_eq0 e))
          have HD := Lib.hid hd
          replace HKQ := Lib.hid (HKQ.out.trans (by unfold parseRB; rw [if_neg (by simp), if_pos hci]; rw [if_neg hd] : _ = ((0 : Int), fr 0 (zi neg n) d)))
          obtain ⟨z, hz⟩ : ∃ z, z = zi neg n := ⟨_, rfl⟩
          rw [← hz] at HKQ
          have HZ := Lib.hid hz
          have HZL : Hid (ln (ab z) ≤ 5098) := Lib.hid (by rw [hz, zi_ab]; exact HLN.out.1)
          clear hz
          obtain ⟨E1, E2⟩ := kq HKQ.out
          have W1 : wrap64 ((at0 : Int) + k) = (at1 : Nat) := by rw [hat1]; exact wrap_two V1
          clear V1 hat1 h1 h2 hrl HL
          clear hd
          go_wp2_with fail
          refine (rsigned_is neg n z HZ.out A1 c1 _ (by exact hA1)).mono ?_
          rintro e w2 ⟨A3, c3, rfl, hA3, hb2⟩
          replace rr := rr.to hb2
          replace hA1 := hA1.to hb2
          replace hA2 := hA2.to hb2
          replace HW := Lib.hid (hstep HW hb2)
          clear hb2
          go_wp2_with fail
          refine (rmake_im z d A3 A2 c3 c2 _ (by exact hA3) (by exact hA2) (by have := HZL.out; omega) (by have := HLN.out.2; omega) HD.out).mono ?_
          rintro e w3 ⟨Z1, Z2, Z3, cZ1, cZ2, cZ3, rfl, hz, hb3⟩
          replace rr := rr.to hb3
          replace hA1 := hA1.to hb3
          replace hA2 := hA2.to hb3
          replace hA3 := hA3.to hb3
          replace HW := Lib.hid (hstep HW hb3)
          clear hb3
          obtain ⟨_, lR, ⟨r0, r1, r2, r3, r4⟩, f0, f1, f2, f3, f4⟩ := id rr
          go_wp2_with fail
          exact bodyPost_ret (v := .tuple #[.agg #[.bool (sn (na (fr 0 z d))), .slice Z1 (ln (ab (na (fr 0 z d)))) cZ1, .bool (sn (nb (fr 0 z d))), .slice Z2 (ln (ab (nb (fr 0 z d)))) cZ2, .slice Z3 (ln (nd (fr 0 z d))) cZ3], .int .i64 0]) (by simp [results, Tryz.results85, go_sem, r0, r1, r2, r3, r4, f0, f1, f2, f3, f4]) rfl (by rw [E1, E2]; exact retNumCE_fin (q := fr 0 z d) HW hz (by omega) r0)
      · have X2 : ¬ ((bs l).extract at1 (bs l).size).toList = [105] := by rw [HX1.out, bs_toList]; exact hci
        have X3 : (((bs l).extract at1 (bs l).size).toList == [105]) = false := beq_eq_false_iff_ne.2 X2
        by_cases hg : c = 45 ∨ c = 43
        · have hi : ¬ c = 105 := by rcases hg with h | h <;> (rw [h]; decide)
          obtain ⟨⟨n2, d2, k2⟩, hP2⟩ : ∃ p, rmP t = p := ⟨_, rfl⟩
          replace HKQ := Lib.hid (HKQ.out.trans (parseRB_sign neg n d c t hi hg))
          rw [hP2] at HKQ
          dsimp only at HKQ
          have h3 : l.drop (at1 + 1) = t := drop_more h1 rfl
          have HD3 := Lib.hid h3
          have htl : t.length = l.length - (at1 + 1) := by rw [← h3, List.length_drop]
          have HTL : Hid (t.length ≤ 4096) := Lib.hid (by have := HS.out; omega)
          have s2 : at1 + 1 ≤ (bs l).size := by omega
          have HP2 := Lib.hid hP2
          have hk2l : k2 ≤ t.length := by have := rmP_le t; rw [hP2] at this; exact this
          have hln2 := rmP_ln (l := t) (K := 4098) (by have := HTL.out; omega)
          rw [hP2] at hln2
          have HLN2 : Hid (ln n2 ≤ 5098 ∧ ln d2 ≤ 5098) := Lib.hid hln2
          have s3 : at1 + 1 + k2 ≤ (bs l).size := by rw [bs_size]; omega
          have HX4 : Hid ((bs l).extract (at1 + 1 + k2) (bs l).size = bs (t.drop k2)) := Lib.hid (by rw [bs_suf, ← h3, List.drop_drop])
          have V2 : at1 ≤ 4000000 := by have := HS.out; omega
          have V3 : at1 + 1 + k2 ≤ 4000000 := by have := HS.out; omega
          obtain ⟨sg, hsg⟩ : ∃ sg, sg = decide (c = 45) := ⟨_, rfl⟩
          rw [← hsg] at HKQ
          have hh : (c :: t).head? = some c := rfl
          have b43 : (((bs l)[at1].toNat : Int) == 43) = !sg := (head_at h1 q2 43).trans (by rw [hh, hsg]; rcases hg with h | h <;> subst h <;> decide)
          have b45 : (((bs l)[at1].toNat : Int) == 45) = sg := (head_at h1 q2 45).trans (by rw [hh, hsg]; rcases hg with h | h <;> subst h <;> decide)
          clear hci hh hi hg hP2 h3 htl hk2l hln2 hsg hlt
          have W1 : wrap64 ((at0 : Int) + k) = (at1 : Nat) := by rw [hat1]; exact wrap_two V1
          clear V1 hat1 h1 h2 hrl HL
          have W2 : wrap64 ((at1 : Int) + 1) = ((at1 + 1 : Nat) : Int) := wrap_one V2
          have W3 : wrap64 (((at1 + 1 : Nat) : Int) + k2) = ((at1 + 1 + k2 : Nat) : Int) := wrap_two V3
          clear V2 V3
          obtain ⟨at2, hat2⟩ : ∃ a, a = at1 + 1 + k2 := ⟨_, rfl⟩
          rw [← hat2] at W3 s3 HX4
          obtain ⟨at3, hat3⟩ : ∃ a, a = at1 + 1 := ⟨_, rfl⟩
          rw [← hat3] at W2 W3 s2 HD3
          clear hat2 hat3
          go_upto_region 17 with fail
          go_cut [79] (fun b wx => b = .bool false ∧ wx = w1)
          case first =>
            cases sg <;> (have c43 := bne_of b43; have c45 := bne_of b45; have p43 := prop_of b43; have p45 := prop_of b45; simp only [Bool.not_true, Bool.not_false] at b43 c43 c45 p43; go_wp2_with fail; go_meet; exact ⟨rfl, rfl⟩)
          case rest =>
          obtain ⟨hc1, hc2⟩ := hcut
          subst hc1
          rw [hc2]
          clear hc2 wc b43 X2 X3
          go_wp2_with fail
          rw [bs_suf, HD3.out]
          refine (rmag_is t n2 d2 k2 HP2.out _ (by have := HTL.out; omega)).mono ?_
          rintro e w2 ⟨B1, e1, B2, e2, rfl, hB1, hB2, hb2⟩
          replace rr := rr.to hb2
          replace hA1 := hA1.to hb2
          replace hA2 := hA2.to hb2
          replace HW := Lib.hid (hstep HW hb2)
          clear hb2
          by_cases hk2 : k2 = 0
          · have k2z := beq0 hk2
            obtain ⟨E1, E2⟩ := kq (HKQ.out.trans (if_pos (Or.inl hk2)))
            clear hk2
            go_wp2_with fail
            refine (rwhole_any 0 _ (by omega) (by omega)).mono ?_
            rintro e w3 ⟨Z1, Z2, Z3, cZ1, cZ2, cZ3, rfl, hz, hb3⟩
            replace rr := rr.to hb3
            replace hA1 := hA1.to hb3
            replace hA2 := hA2.to hb3
            replace hB1 := hB1.to hb3
            replace hB2 := hB2.to hb3
            replace HW := Lib.hid (hstep HW hb3)
            clear hb3
            obtain ⟨_, lR, ⟨r0, r1, r2, r3, r4⟩, f0, f1, f2, f3, f4⟩ := id rr
            go_wp2_with fail
            exact bodyPost_ret (v := .tuple #[.agg #[.bool (sn (na (Cx.ofInt 0))), .slice Z1 (ln (ab (na (Cx.ofInt 0)))) cZ1, .bool (sn (nb (Cx.ofInt 0))), .slice Z2 (ln (ab (nb (Cx.ofInt 0)))) cZ2, .slice Z3 (ln (nd (Cx.ofInt 0))) cZ3], .int .i64 2]) (by simp [results, Tryz.results85, go_sem, r0, r1, r2, r3, r4, f0, f1, f2, f3, f4]) rfl (by rw [E1, E2]; exact retNumCE_fin (q := Cx.ofInt 0) HW hz (by omega) r0)
          · have k2z := bne0 hk2
            by_cases hti : t.drop k2 = [105]
            · have X4 : ((bs l).extract at2 (bs l).size).toList = [105] := by rw [HX4.out, bs_toList]; exact hti
              replace HKQ := Lib.hid (HKQ.out.trans (if_neg (fun x => x.elim hk2 (fun y => y hti))))
              clear hk2 hti
              by_cases hd : d = 0
              · skip
                have d0 := beq0 (show ln d = 0 by rw [hd, ln_zero])
                obtain ⟨E1, E2⟩ := kq (HKQ.out.trans (if_pos (Or.inl hd)))
                clear hd
                go_wp2_with fail
                refine (rwhole_any 0 _ (by omega) (by omega)).mono ?_
                rintro e w3 ⟨Z1, Z2, Z3, cZ1, cZ2, cZ3, rfl, hz, hb3⟩
                replace rr := rr.to hb3
                replace hA1 := hA1.to hb3
                replace hA2 := hA2.to hb3
                replace hB1 := hB1.to hb3
                replace hB2 := hB2.to hb3
                replace HW := Lib.hid (hstep HW hb3)
                clear hb3
                obtain ⟨_, lR, ⟨r0, r1, r2, r3, r4⟩, f0, f1, f2, f3, f4⟩ := id rr
                go_wp2_with fail
                exact bodyPost_ret (v := .tuple #[.agg #[.bool (sn (na (Cx.ofInt 0))), .slice Z1 (ln (ab (na (Cx.ofInt 0)))) cZ1, .bool (sn (nb (Cx.ofInt 0))), .slice Z2 (ln (ab (nb (Cx.ofInt 0)))) cZ2, .slice Z3 (ln (nd (Cx.ofInt 0))) cZ3], .int .i64 3]) (by simp [results, Tryz.results85, go_sem, r0, r1, r2, r3, r4, f0, f1, f2, f3, f4]) rfl (by rw [E1, E2]; exact retNumCE_fin (q := Cx.ofInt 0) HW hz (by omega) r0)
              · have d0 := bne0 (fun e => hd (ln_eq0 e))
                have HD := Lib.hid hd
                by_cases hd2 : d2 = 0
                · skip
                  have d20 := beq0 (show ln d2 = 0 by rw [hd2, ln_zero])
                  obtain ⟨E1, E2⟩ := kq (HKQ.out.trans (if_pos (Or.inr hd2)))
                  clear hd hd2
                  go_wp2_with fail
                  refine (rwhole_any 0 _ (by omega) (by omega)).mono ?_
                  rintro e w3 ⟨Z1, Z2, Z3, cZ1, cZ2, cZ3, rfl, hz, hb3⟩
                  replace rr := rr.to hb3
                  replace hA1 := hA1.to hb3
                  replace hA2 := hA2.to hb3
                  replace hB1 := hB1.to hb3
                  replace hB2 := hB2.to hb3
                  replace HW := Lib.hid (hstep HW hb3)
                  clear hb3
                  obtain ⟨_, lR, ⟨r0, r1, r2, r3, r4⟩, f0, f1, f2, f3, f4⟩ := id rr
                  go_wp2_with fail
                  exact bodyPost_ret (v := .tuple #[.agg #[.bool (sn (na (Cx.ofInt 0))), .slice Z1 (ln (ab (na (Cx.ofInt 0)))) cZ1, .bool (sn (nb (Cx.ofInt 0))), .slice Z2 (ln (ab (nb (Cx.ofInt 0)))) cZ2, .slice Z3 (ln (nd (Cx.ofInt 0))) cZ3], .int .i64 3]) (by simp [results, Tryz.results85, go_sem, r0, r1, r2, r3, r4, f0, f1, f2, f3, f4]) rfl (by rw [E1, E2]; exact retNumCE_fin (q := Cx.ofInt 0) HW hz (by omega) r0)
                · skip
                  have d20 := bne0 (fun e => hd2 (ln_eq0 e))
                  have HDD := Lib.hid hd2
                  replace HKQ := Lib.hid (HKQ.out.trans (if_neg (fun x => x.elim hd hd2)))
                  obtain ⟨z, hz⟩ : ∃ z, z = zi neg n := ⟨_, rfl⟩
                  rw [← hz] at HKQ
                  have HZ := Lib.hid hz
                  have HZL : Hid (ln (ab z) ≤ 5098) := Lib.hid (by rw [hz, zi_ab]; exact HLN.out.1)
                  clear hz
                  obtain ⟨y, hy⟩ : ∃ y, y = zi sg n2 := ⟨_, rfl⟩
                  rw [← hy] at HKQ
                  have HY := Lib.hid hy
                  have HYL : Hid (ln (ab y) ≤ 5098) := Lib.hid (by rw [hy, zi_ab]; exact HLN2.out.1)
                  obtain ⟨E1, E2⟩ := kq HKQ.out
                  clear hd hd2 hy
                  go_wp2_with fail
                  refine (rsigned_is neg n z HZ.out A1 c1 _ (by exact hA1)).mono ?_
                  rintro e w3 ⟨A3, c3, rfl, hA3, hb3⟩
                  replace rr := rr.to hb3
                  replace hA1 := hA1.to hb3
                  replace hA2 := hA2.to hb3
                  replace hB1 := hB1.to hb3
                  replace hB2 := hB2.to hb3
                  replace HW := Lib.hid (hstep HW hb3)
                  clear hb3
                  go_wp2_with fail
                  refine (rmake_re z d A3 A2 c3 c2 _ (by exact hA3) (by exact hA2) (by have := HZL.out; omega) (by have := HLN.out.2; omega) HD.out).mono ?_
                  rintro e w4 ⟨X1, X2, X3, cX1, cX2, cX3, rfl, hx, hb4⟩
                  replace rr := rr.to hb4
                  replace hA1 := hA1.to hb4
                  replace hA2 := hA2.to hb4
                  replace hB1 := hB1.to hb4
                  replace hB2 := hB2.to hb4
                  replace hA3 := hA3.to hb4
                  replace HW := Lib.hid (hstep HW hb4)
                  clear hb4
                  go_wp2_with fail
                  refine (rsigned_is sg n2 y HY.out B1 e1 _ (by exact hB1)).mono ?_
                  rintro e w5 ⟨B3, e3, rfl, hB3, hb5⟩
                  replace rr := rr.to hb5
                  replace hA1 := hA1.to hb5
                  replace hA2 := hA2.to hb5
                  replace hB1 := hB1.to hb5
                  replace hB2 := hB2.to hb5
                  replace hA3 := hA3.to hb5
                  replace hx := hx.to hb5
                  replace HW := Lib.hid (hstep HW hb5)
                  clear hb5
                  go_wp2_with fail
                  refine (rmake_im y d2 B3 B2 e3 e2 _ (by exact hB3) (by exact hB2) (by have := HYL.out; omega) (by have := HLN2.out.2; omega) HDD.out).mono ?_
                  rintro e w6 ⟨Y1, Y2, Y3, cY1, cY2, cY3, rfl, hy, hb6⟩
                  replace rr := rr.to hb6
                  replace hA1 := hA1.to hb6
                  replace hA2 := hA2.to hb6
                  replace hB1 := hB1.to hb6
                  replace hB2 := hB2.to hb6
                  replace hA3 := hA3.to hb6
                  replace hx := hx.to hb6
                  replace hB3 := hB3.to hb6
                  replace HW := Lib.hid (hstep HW hb6)
                  clear hb6
                  go_wp2_with fail
                  refine (radd_any (fr z 0 d) (fr 0 y d2) X1 X2 X3 Y1 Y2 Y3 cX1 cX2 cX3 cY1 cY2 cY3 _ (by exact hx) (by exact hy) (fr_sz HD.out (by have := HZL.out; omega) (by show ln 0 ≤ _; rw [ln_zero]; omega) (by have := HLN.out.2; omega)) (fr_sz HDD.out (by show ln 0 ≤ _; rw [ln_zero]; omega) (by have := HYL.out; omega) (by have := HLN2.out.2; omega))).mono ?_
                  rintro e w7 ⟨Z1, Z2, Z3, cZ1, cZ2, cZ3, rfl, hz, hb7⟩
                  replace rr := rr.to hb7
                  replace hA1 := hA1.to hb7
                  replace hA2 := hA2.to hb7
                  replace hB1 := hB1.to hb7
                  replace hB2 := hB2.to hb7
                  replace hA3 := hA3.to hb7
                  replace hx := hx.to hb7
                  replace hB3 := hB3.to hb7
                  replace hy := hy.to hb7
                  replace HW := Lib.hid (hstep HW hb7)
                  clear hb7
                  obtain ⟨_, lR, ⟨r0, r1, r2, r3, r4⟩, f0, f1, f2, f3, f4⟩ := id rr
                  go_wp2_with fail
                  exact bodyPost_ret (v := .tuple #[.agg #[.bool (sn (na ((fr z 0 d).add (fr 0 y d2)))), .slice Z1 (ln (ab (na ((fr z 0 d).add (fr 0 y d2))))) cZ1, .bool (sn (nb ((fr z 0 d).add (fr 0 y d2)))), .slice Z2 (ln (ab (nb ((fr z 0 d).add (fr 0 y d2))))) cZ2, .slice Z3 (ln (nd ((fr z 0 d).add (fr 0 y d2)))) cZ3], .int .i64 0]) (by simp [results, Tryz.results85, go_sem, r0, r1, r2, r3, r4, f0, f1, f2, f3, f4]) rfl (by rw [E1, E2]; exact retNumCE_fin (q := (fr z 0 d).add (fr 0 y d2)) HW hz (by omega) r0)
            · have X4 : ¬ ((bs l).extract at2 (bs l).size).toList = [105] := by rw [HX4.out, bs_toList]; exact hti
              have X5 : (((bs l).extract at2 (bs l).size).toList == [105]) = false := beq_eq_false_iff_ne.2 X4
              obtain ⟨E1, E2⟩ := kq (HKQ.out.trans (if_pos (Or.inr hti)))
              clear hk2 hti
              go_wp2_with fail
              refine (rwhole_any 0 _ (by omega) (by omega)).mono ?_
              rintro e w3 ⟨Z1, Z2, Z3, cZ1, cZ2, cZ3, rfl, hz, hb3⟩
              replace rr := rr.to hb3
              replace hA1 := hA1.to hb3
              replace hA2 := hA2.to hb3
              replace hB1 := hB1.to hb3
              replace hB2 := hB2.to hb3
              replace HW := Lib.hid (hstep HW hb3)
              clear hb3
              obtain ⟨_, lR, ⟨r0, r1, r2, r3, r4⟩, f0, f1, f2, f3, f4⟩ := id rr
              go_wp2_with fail
              exact bodyPost_ret (v := .tuple #[.agg #[.bool (sn (na (Cx.ofInt 0))), .slice Z1 (ln (ab (na (Cx.ofInt 0)))) cZ1, .bool (sn (nb (Cx.ofInt 0))), .slice Z2 (ln (ab (nb (Cx.ofInt 0)))) cZ2, .slice Z3 (ln (nd (Cx.ofInt 0))) cZ3], .int .i64 2]) (by simp [results, Tryz.results85, go_sem, r0, r1, r2, r3, r4, f0, f1, f2, f3, f4]) rfl (by rw [E1, E2]; exact retNumCE_fin (q := Cx.ofInt 0) HW hz (by omega) r0)
        · have hh : (c :: t).head? = some c := rfl
          have b43 : (((bs l)[at1].toNat : Int) == 43) = false := (head_at h1 q2 43).trans (by rw [hh]; simp; exact fun h => hg (.inr h))
          have b45 : (((bs l)[at1].toNat : Int) == 45) = false := (head_at h1 q2 45).trans (by rw [hh]; simp; exact fun h => hg (.inl h))
          have c43 := bne_of b43
          have c45 := bne_of b45
          have p43 := prop_of b43
          have p45 := prop_of b45
          obtain ⟨E1, E2⟩ := kq (HKQ.out.trans ((by unfold parseRB; rw [if_neg (by simp), if_neg hci, if_neg (show ¬ ((c :: t).head? = some 45 ∨ (c :: t).head? = some 43) by simpa using hg)] : _ = ((2 : Int), Cx.zero))))
          clear hh hg hci hlt
          have W1 : wrap64 ((at0 : Int) + k) = (at1 : Nat) := by rw [hat1]; exact wrap_two V1
          clear V1 hat1 h1 h2 hrl HL
          go_wp2_with fail
          refine (rwhole_any 0 _ (by omega) (by omega)).mono ?_
          rintro e w2 ⟨Z1, Z2, Z3, cZ1, cZ2, cZ3, rfl, hz, hb2⟩
          replace rr := rr.to hb2
          replace hA1 := hA1.to hb2
          replace hA2 := hA2.to hb2
          replace HW := Lib.hid (hstep HW hb2)
          clear hb2
          obtain ⟨_, lR, ⟨r0, r1, r2, r3, r4⟩, f0, f1, f2, f3, f4⟩ := id rr
          go_wp2_with fail
          exact bodyPost_ret (v := .tuple #[.agg #[.bool (sn (na (Cx.ofInt 0))), .slice Z1 (ln (ab (na (Cx.ofInt 0)))) cZ1, .bool (sn (nb (Cx.ofInt 0))), .slice Z2 (ln (ab (nb (Cx.ofInt 0)))) cZ2, .slice Z3 (ln (nd (Cx.ofInt 0))) cZ3], .int .i64 2]) (by simp [results, Tryz.results85, go_sem, r0, r1, r2, r3, r4, f0, f1, f2, f3, f4]) rfl (by rw [E1, E2]; exact retNumCE_fin (q := Cx.ofInt 0) HW hz (by omega) r0)

end Go.Proofs.YtgpmlhpgdalheaaGreat

namespace Go.Proofs.YtgpmlhpgdalheaaGreat
open Go.RowKit Pl
set_option linter.unusedVariables false
set_option linter.unusedSimpArgs false

set_option maxRecDepth 100000 in
set_option maxHeartbeats 4000000 in
theorem rparse_long (l : List UInt8) (w : World) (hl : 4096 < l.length) :
    Calls Tryz.prog 85 #[.string (bs l)] w (RetNumCE w 4 Cx.zero) := by
  have t0 : decide ((4096 : Int) < ((bs l).size : Int)) = true := decide_eq_true (by rw [bs_size]; omega)
  clear hl
  go_enter Tryz.func85, Tryz.ntmps85
  go_wp2_with fail
  obtain ⟨W, hW⟩ : ∃ W : World, W = (w.alloc (.cells #[.bool false, .slice none 0 0, .bool false, .slice none 0 0, .slice none 0 0] 34)) := ⟨_, rfl⟩
  have r0 : W.cell? ⟨w.heap.size, 0, none⟩ = some (.bool false) := by subst hW; go_simp
  have f0 : W.frozen? ⟨w.heap.size, 0, none⟩ = false := by subst hW; go_simp
  have r1 : W.cell? ⟨w.heap.size, 1, none⟩ = some (.slice none 0 0) := by subst hW; go_simp
  have f1 : W.frozen? ⟨w.heap.size, 1, none⟩ = false := by subst hW; go_simp
  have r2 : W.cell? ⟨w.heap.size, 2, none⟩ = some (.bool false) := by subst hW; go_simp
  have f2 : W.frozen? ⟨w.heap.size, 2, none⟩ = false := by subst hW; go_simp
  have r3 : W.cell? ⟨w.heap.size, 3, none⟩ = some (.slice none 0 0) := by subst hW; go_simp
  have f3 : W.frozen? ⟨w.heap.size, 3, none⟩ = false := by subst hW; go_simp
  have r4 : W.cell? ⟨w.heap.size, 4, none⟩ = some (.slice none 0 0) := by subst hW; go_simp
  have f4 : W.frozen? ⟨w.heap.size, 4, none⟩ = false := by subst hW; go_simp
  have HW : Below w.heap.size w W := by subst hW; exact ((Below.refl w.heap.size w).alloc (Nat.le_refl _) _)
  have l0 : w.heap.size < W.heap.size := by subst hW; simp
  rw [← hW]
  clear hW
  replace HW := Lib.hid HW
  refine (rwhole_any 0 _ (by omega) (by omega)).mono ?_
  rintro e w1 ⟨Z1, Z2, Z3, cZ1, cZ2, cZ3, rfl, hz, hb1⟩
  replace r0 := keepc hb1 r0 l0
  replace f0 := keepf hb1 f0 l0
  replace r1 := keepc hb1 r1 l0
  replace f1 := keepf hb1 f1 l0
  replace r2 := keepc hb1 r2 l0
  replace f2 := keepf hb1 f2 l0
  replace r3 := keepc hb1 r3 l0
  replace f3 := keepf hb1 f3 l0
  replace r4 := keepc hb1 r4 l0
  replace f4 := keepf hb1 f4 l0
  replace l0 := Nat.lt_of_lt_of_le l0 hb1.size
  replace HW := Lib.hid (hstep HW hb1)
  clear hb1
  go_wp2_with fail
  exact bodyPost_ret (v := .tuple #[.agg #[.bool (sn (na (Cx.ofInt 0))), .slice Z1 (ln (ab (na (Cx.ofInt 0)))) cZ1, .bool (sn (nb (Cx.ofInt 0))), .slice Z2 (ln (ab (nb (Cx.ofInt 0)))) cZ2, .slice Z3 (ln (nd (Cx.ofInt 0))) cZ3], .int .i64 4]) (by simp [results, Tryz.results85, go_sem, r0, r1, r2, r3, r4, f0, f1, f2, f3, f4]) rfl (retNumCE_fin (q := Cx.ofInt 0) HW hz (by omega) r0)

/-- 'Parse'. -/
theorem rparse_all (l : List UInt8) (w : World) : Calls Tryz.prog 85 #[.string (bs l)] w (RetNumCE w (parseR l).1 (parseR l).2) := by
  by_cases hl : 4096 < l.length
  · unfold parseR; rw [if_pos hl]; exact rparse_long l w hl
  · exact rparse_main l w (by omega) _ _ rfl
/-- What both hand back is not great. -/
theorem sz_parse (l : List UInt8) : sz 274877906944 (parseR l).2 := by
  have hz : sz 274877906944 Cx.zero := sz_int0.mono (by omega)
  unfold parseR
  by_cases hl : 4096 < l.length
  · rw [if_pos hl]; exact hz
  · rw [if_neg hl]
    have hs : (sgr l).length ≤ 4096 := by have := sgr_le l; omega
    generalize sgr l = q at *
    have h := rmP_ln (l := q) (K := 4098) (by omega)
    split
    · exact hz
    · have hr : (q.drop (rmP q).2.2).length ≤ 4096 := by simp; omega
      generalize decide (l.head? = some 45) = neg
      generalize q.drop (rmP q).2.2 = r at *
      generalize (rmP q).1 = n at *
      generalize (rmP q).2.1 = d at *
      have l0 : ln (ab 0) ≤ 10000 := by show ln 0 ≤ _; rw [ln_zero]; omega
      have hn : ∀ b m, ln m ≤ 4098 + 1000 → ln (ab (zi b m)) ≤ 10000 := fun b m h => by rw [zi_ab]; omega
      unfold parseRB
      split
      · split
        · exact hz
        · rename_i hd
          exact (fr_sz hd (hn _ _ h.1) l0 (by omega)).mono (by omega)
      · split
        · split
          · exact hz
          · rename_i hd
            exact (fr_sz hd l0 (hn _ _ h.1) (by omega)).mono (by omega)
        · split
          · have ht : r.tail.length ≤ 4096 := by simp; omega
            have h2 := rmP_ln (l := r.tail) (K := 4098) (by omega)
            split
            · exact hz
            · split
              · exact hz
              · rename_i hd
                exact (sz_add (fr_sz (fun e => hd (.inl e)) (hn _ _ h.1) l0 (by omega)) (fr_sz (fun e => hd (.inr e)) l0 (hn _ _ h2.1) (by omega))).mono (by omega)
          · exact hz
end Go.Proofs.YtgpmlhpgdalheaaGreat

namespace Go.Proofs.YtgpmlhpgdalheaaGreat
open Go.RowKit Pl
set_option linter.unusedVariables false
set_option linter.unusedSimpArgs false

set_option maxHeartbeats 4000000 in
theorem numParse_q (s : ByteArray) (w : World) (hs : ¬ 6000 < s.size) (q : Cx) (k : Int)
    (h1 : ∀ w : World, Calls Tryz.prog 84 #[.string s] w (RetNumE w k q))
    (h2 : ∀ w : World, Calls Tryz.prog 85 #[.string s] w (RetNumCE w k q)) (hq : sz 274877906944 q) :
    Calls Tryz.prog 11 #[.string s] w (RetBool w true) := by
  have HQ := Lib.hid hq
  have H1 := Lib.hid h1
  have H2 := Lib.hid h2
  have t0 : decide ((6000 : Int) < (s.size : Int)) = false := decide_eq_false (by omega)
  clear hq h1 h2 hs
  go_enter Tryz.func11, Tryz.ntmps11
  go_wp2_with fail
  have HW : Hid (Below w.heap.size w w) := Lib.hid (Below.refl _ _)
  refine (H1.out _).mono ?_
  rintro e w1 ⟨P1, P2, P3, rfl, hp, hb1⟩
  replace HW := Lib.hid (hstep HW hb1)
  clear hb1
  go_wp2_with fail
  obtain ⟨X, hX⟩ : ∃ X : World, X = w1.alloc (.cells #[.bool (sn (na q)), .slice P1 (ln (ab (na q))) (ln (ab (na q))), .bool (sn (nb q)), .slice P2 (ln (ab (nb q))) (ln (ab (nb q))), .slice P3 (ln (un q)) (ln (un q))] 30) := ⟨_, rfl⟩
  rw [← hX]
  have hb2 : Below w1.heap.size w1 X := by subst hX; exact (Below.refl _ _).alloc (Nat.le_refl _) _
  have u2_0 : X.cell? ⟨w1.heap.size, 0, none⟩ = some (.bool (sn (na q))) := by subst hX; go_simp
  have u2_1 : X.cell? ⟨w1.heap.size, 1, none⟩ = some (.slice P1 (ln (ab (na q))) (ln (ab (na q)))) := by subst hX; go_simp
  have u2_2 : X.cell? ⟨w1.heap.size, 2, none⟩ = some (.bool (sn (nb q))) := by subst hX; go_simp
  have u2_3 : X.cell? ⟨w1.heap.size, 3, none⟩ = some (.slice P2 (ln (ab (nb q))) (ln (ab (nb q)))) := by subst hX; go_simp
  have u2_4 : X.cell? ⟨w1.heap.size, 4, none⟩ = some (.slice P3 (ln (un q)) (ln (un q))) := by subst hX; go_simp
  have l202 : w1.heap.size < X.heap.size := by subst hX; simp
  clear hX
  replace hp := hp.to hb2
  replace HW := Lib.hid (hstep HW hb2)
  clear hb2
  obtain ⟨p8, hp8⟩ : ∃ p, p = w1.heap.size := ⟨_, rfl⟩
  rw [← hp8] at u2_0 u2_1 u2_2 u2_3 u2_4 l202 ⊢
  clear hp8
  refine (H2.out _).mono ?_
  rintro e w3 ⟨Q1, Q2, Q3, cQ1, cQ2, cQ3, rfl, hr, hb3⟩
  replace u2_0 := keepc hb3 u2_0 l202
  replace u2_1 := keepc hb3 u2_1 l202
  replace u2_2 := keepc hb3 u2_2 l202
  replace u2_3 := keepc hb3 u2_3 l202
  replace u2_4 := keepc hb3 u2_4 l202
  replace l202 := Nat.lt_of_lt_of_le l202 hb3.size
  replace hp := hp.to hb3
  replace HW := Lib.hid (hstep HW hb3)
  clear hb3
  go_wp2_with fail
  refine (is_true q P1 P2 P3 Q1 Q2 Q3 cQ1 cQ2 cQ3 _ (by exact ⟨hp.1.alloc _, hp.2.1.alloc _, hp.2.2.alloc _⟩) (by exact ⟨hr.1.alloc _, hr.2.1.alloc _, hr.2.2.alloc _⟩) HQ.out).mono ?_
  rintro e w4 ⟨rfl, hb4⟩
  replace hb4 := unalloc hb4
  replace HW := Lib.hid (hstep HW hb4)
  clear hb4
  go_wp2_with fail
  refine (awake_any _).mono ?_
  rintro e w8 ⟨rfl, hb8⟩
  replace HW := Lib.hid (hstep HW hb8)
  clear hb8
  go_wp2_with fail
  go_ret
  exact ⟨rfl, HW.out⟩

set_option maxHeartbeats 4000000 in
theorem numParse_long (s : ByteArray) (w : World) (hs : 6000 < s.size) :
    Calls Tryz.prog 11 #[.string s] w (RetBool w true) := by
  have t0 : decide ((6000 : Int) < (s.size : Int)) = true := decide_eq_true (by omega)
  clear hs
  go_enter Tryz.func11, Tryz.ntmps11
  go_wp2_with fail
  refine (awake_any _).mono ?_
  rintro e w8 ⟨rfl, hb8⟩
  go_wp2_with fail
  go_ret
  exact ⟨rfl, hb8⟩

theorem numParse_any (s : ByteArray) (w : World) : Calls Tryz.prog 11 #[.string s] w (RetBool w true) := by
  by_cases h : 6000 < s.size
  · exact numParse_long s w h
  · have e : s = bs s.data.toList := bs_ext (by rw [bs_list])
    refine numParse_q s w h (parseR s.data.toList).2 (parseR s.data.toList).1 (fun w => ?_) (fun w => ?_) (sz_parse _)
    · rw [parse_same]
      have := parse_all s.data.toList w
      rwa [← e] at this
    · have := rparse_all s.data.toList w
      rwa [← e] at this
end Go.Proofs.YtgpmlhpgdalheaaGreat

namespace Go.Proofs.YtgpmlhpgdalheaaGreat
open Go.ChangeMaps Go.ChangeShapes Go.WideShapes Go.ChangeAt Go.RowKit Go.Joins Pl
set_option linter.unusedVariables false

theorem numParse_own : ownKnob Tryz.prog.godebug = none := by kernel_rfl
section
variable {H : Type} {enc : TypeId × Value → H} {P : Program}
/-- Arguments that hold no place: what is asked behind the call. -/
theorem numParse_flat {f : Func} {s : ChangeSpec} {apart fresh handsOn again : Bool} {W W' : World} {args : Array Value} {v : Value} {ds gs : List (DataW H)}
    (hW : DataW.Whole enc P f.params.toList s.vars apart W args.toList ds gs [])
    (hres : ∀ (b : Nat) (sp : Nat → Bool) (hd : Bool), DataW.TrodAll enc P W' b sp hd f.resultTypes.toList (v.resultList f.resultTypes.size) (s.fn H (ds ++ gs)).results [])
    (hargs : ∀ sp : Nat → Bool, DataW.TrodAll enc P W' 0 sp true f.params.toList args.toList (s.fn H (ds ++ gs)).args [])
    (hvars : ∀ sp : Nat → Bool, DataW.TrodVars enc P W' sp s.vars (s.fn H (ds ++ gs)).vars [])
    (hk : ∀ may : MemPlace → Prop, W.keptBut W' may)
    (hok : ∀ (j : Nat) (t : TypeId) (r : Value), f.resultTypes[j]? = some t → (v.resultList f.resultTypes.size)[j]? = some r → Value.okWide P W' .any 0 t r) :
    s.post enc P f apart fresh handsOn again W args v W' :=
  ⟨ds, gs, [], [], [], [], hW, hres _ _ _, hargs _, hvars _, hk _, fun _ => ⟨hok, _, _, [], ⟨[], [], trodAll_append (hargs _) (hres _ _ _), hvars _, rfl, (fun b off hp => by cases hp), (fun _ => List.nodup_nil)⟩, (fun p hp _ => by cases hp)⟩⟩
end

theorem numParse_walk_row (s : ByteArray) (W : World) :
    Calls Tryz.prog 11 #[.string s] W fun e w' => e = .returned (.bool true) ∧ Below W.heap.size W w' := by
  exact (numParse_any s W)

set_option maxRecDepth 100000 in
theorem numParse_lifted (os : Os) (started : os.Started) (H : Type) (enc : TypeId × Value → H) :
    ReturnsInHanded {} Tryz.checked os 11 .any (Rows.numParseSpec.pre6 enc Tryz.prog Tryz.f11 Rows.numParseRow.domain false) (Rows.numParseSpec.post enc Tryz.prog Tryz.f11 false true false false) := by
  refine returnsInHanded_of_change (C := Tryz.checked) numParse_own started (by kernel_rfl) Tryz.func11
    (ChangeSpec.witness6 (enc := enc) (C := Tryz.checked) false ⟨#[], #[.string ⟨#[]⟩], []⟩ 8 (by kernel_rfl) (by kernel_rfl) (by kernel_rfl) (by kernel_rfl)) ?_
  intro W base args ds gs before hval0 hW hcnd _
  have hval : ∀ (j : Nat) t v, Tryz.f11.params[j]? = some t → args[j]? = some v → Value.okWide Tryz.prog W .any base t v := hval0
  have hW' := hW
  obtain ⟨p, q, hA0, hV, rfl, hfz, hnd⟩ := hW
  have hA : DataW.TrodAll enc Tryz.prog W 0 (fun _ => true) true Tryz.f11.params.toList args.toList ds p := hA0
  rw [Tryz.params11] at hA hval
  obtain ⟨v0, vs0, d0, ds0, p0, q0, hargs, rfl, rfl, h0, r0⟩ := trodAll_cons hA
  obtain ⟨rfl, rfl, rfl⟩ := trodAll_nil r0
  obtain rfl : args = #[v0] := by cases args; simp_all
  obtain ⟨rfl, rfl⟩ := trodVars_none hV
  obtain ⟨a, rfl, rfl, rfl, wa⟩ := open_string Tryz.underlying9 (hval 0 9 v0 rfl rfl) h0
  clear hA0 hval0
  simp only [List.append_nil] at hW'
  refine (numParse_walk_row a W).mono fun e W' ⟨he, hg⟩ => ?_
  subst he
  exact ⟨_, rfl, numParse_flat hW' (fun _ _ _ => trodAll_cons_mk (shut_bool Tryz.underlying4 _) trodAll_mk0) (fun sp => trodAll_cons_mk (shut_string Tryz.underlying9 wa) trodAll_mk0) (fun _ => rfl) (fun may => hg.frame may) (ok_one (by kernel_rfl) rfl (okWide_bool_mk Tryz.underlying4 _))⟩

theorem numParse_over : Rows.numParseRow.holds Tryz.pinned (OpenSpec.ofChange Rows.numParseSpec) :=
  OpenClaim.holds_of_wide 11 Tryz.f11 rfl rfl rfl rfl rfl rfl rfl ⟨rfl, rfl, rfl, rfl, rfl⟩ rfl rfl rfl rfl rfl (by kernel_rfl) Tryz.func11 (by kernel_rfl)
    (of_decide_eq_true (by kernel_rfl)) (by unfold Func.isWrapper; first | (rw [if_pos (by decide +kernel)]; kernel_rfl) | (rw [if_neg (by decide +kernel)]; exact ⟨rfl, rfl⟩))
    (fun os started H enc _ => numParse_lifted os started H enc)

/-- THE STATEMENT. -/
theorem numParse_holds : Rows.NumParseSaid := numParse_over
#print axioms numParse_holds
end Go.Proofs.YtgpmlhpgdalheaaGreat
