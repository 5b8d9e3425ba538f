/- The program's reader: take, run, whole. The program's natFrom: the number of decimal digits. The program's reader over lists of bytes; 'magnitude' of a whole number and of a fraction. The program's 'magnitude' of the digits of a number, and of a fraction. -/
import Derived.Test.YtgpmlhpgdalheaaGreatNum5
import Derived.Test.YtgpmlhpgdalheaaGreatDig
import Derived.Deep.LoopGhost
import Derived.Test.YtgpmlhpgdalheaaGreatMul
import Derived.Test.YtgpmlhpgdalheaaGreatAdd
import Derived.Test.YtgpmlhpgdalheaaGreatNDiv
namespace Go.Proofs.YtgpmlhpgdalheaaGreat
open Go.RowKit Pl
set_option linter.unusedVariables false
set_option linter.unusedSimpArgs false

/-- A reader: what is left, and whether it is bad. -/
def Rd (w : World) (g : Nat) (s : ByteArray) (b : Bool) : Prop :=
  g < w.heap.size ∧ w.cell? ⟨g, 0, none⟩ = some (.string s) ∧ w.cell? ⟨g, 1, none⟩ = some (.bool b) ∧ w.frozen? ⟨g, 0, none⟩ = false ∧ w.frozen? ⟨g, 1, none⟩ = false

theorem Rd.set0 {w : World} {g : Nat} {s t : ByteArray} {b : Bool} (h : Rd w g s b) : Rd (w.setCell ⟨g, 0, none⟩ (.string t)) g t b :=
  ⟨by simpa [World.setCell] using h.1, cell_self h.2.1, keepo h.2.2.1 (by simp), keepof h.2.2.2.1, keepof h.2.2.2.2⟩
theorem Rd.set1 {w : World} {g : Nat} {s : ByteArray} {b c : Bool} (h : Rd w g s b) : Rd (w.setCell ⟨g, 1, none⟩ (.bool c)) g s c :=
  ⟨by simpa [World.setCell] using h.1, keepo h.2.1 (by simp), cell_self h.2.2.1, keepof h.2.2.2.1, keepof h.2.2.2.2⟩
theorem Rd.to {w w' : World} {g : Nat} {s : ByteArray} {b : Bool} (h : Rd w g s b) (hb : Below w.heap.size w w') : Rd w' g s b :=
  ⟨Nat.lt_of_lt_of_le h.1 hb.size, keepc hb h.2.1 h.1, keepc hb h.2.2.1 h.1, keepf hb h.2.2.2.1 h.1, keepf hb h.2.2.2.2 h.1⟩

/-- What the block g alone may have turned, of what was there. -/
def Ap (g : Nat) (w w' : World) : Prop := Below g w w' ∧ ∀ k, k ≠ g → k < w.heap.size → w'.heap[k]? = w.heap[k]?
theorem Ap.refl (g : Nat) (w : World) : Ap g w w := ⟨Below.refl _ _, fun _ _ _ => rfl⟩
theorem Ap.trans {g : Nat} {a b c : World} (h : Ap g a b) (k : Ap g b c) : Ap g a c :=
  ⟨h.1.trans k.1, fun i hi hl => (k.2 i hi (Nat.lt_of_lt_of_le hl h.1.size)).trans (h.2 i hi hl)⟩
theorem Ap.of {g : Nat} {w w' : World} (h : Below w.heap.size w w') (hg : g < w.heap.size) : Ap g w w' :=
  ⟨h.mono (Nat.le_of_lt hg), fun k _ hk => h.block k hk⟩
theorem Ap.set {g i : Nat} {a w : World} {u : Value} (h : Ap g a w) : Ap g a (w.setCell ⟨g, i, none⟩ u) :=
  ⟨h.1.setCell (by exact Nat.le_refl _) _, fun k hk hl => (Below.heap_setCell _ _ _ _ (by exact hk)).trans (h.2 k hk hl)⟩
theorem Ap.alloc {g : Nat} {a w : World} (h : Ap g a w) (hg : g < a.heap.size) (o : Obj) : Ap g a (w.alloc o) :=
  h.trans (Ap.of ((Below.refl _ _).alloc (Nat.le_refl _) o) (Nat.lt_of_lt_of_le hg h.1.size))
theorem Ap.cell {g : Nat} {w w' : World} (h : Ap g w w') {b i : Nat} {v : Value} (hc : w.cell? ⟨b, i, none⟩ = some v) (hb : b ≠ g) (hl : b < w.heap.size) : w'.cell? ⟨b, i, none⟩ = some v :=
  (World.cell?_of_block (w := w) (h.2 b hb hl)).trans hc
theorem Ap.frozen {g : Nat} {w w' : World} (h : Ap g w w') {b i : Nat} {v : Bool} (hc : w.frozen? ⟨b, i, none⟩ = v) (hb : b ≠ g) (hl : b < w.heap.size) : w'.frozen? ⟨b, i, none⟩ = v :=
  (World.frozen?_of_block (w := w) (h.2 b hb hl)).trans hc
theorem Ap.nat {g n : Nat} {w w' : World} {A : Option Addr} {s : ByteArray} {b : Bool} (h : Ap g w w') (hr : Rd w g s b) (hn : Nat32 w A n) : Nat32 w' A n := fun h0 => by
  obtain ⟨c, e, hlt, hc⟩ := hn h0
  have hcg : c ≠ g := fun e2 => by
    have h1 := hc 0 (ln_pos h0)
    rw [e2, hr.2.1] at h1
    cases h1
  exact ⟨c, e, Nat.lt_of_lt_of_le hlt h.1.size, fun j hj => h.cell (hc j hj) hcg hlt⟩

/-- A digit. -/
def dgt (c : UInt8) : Bool := decide (48 ≤ c.toNat) && decide (c.toNat ≤ 57)

set_option maxHeartbeats 1000000 in
/-- 'run': the digits at the beginning. -/
theorem run_at (s : ByteArray) (n g : Nat) (b : Bool) (w : World) (hr : Rd w g s b) (hn : n ≤ s.size) (hs : s.size ≤ 9223372036854775807)
    (hd : ∀ i, (h : i < s.size) → i < n → dgt s[i] = true) (he : (h : n < s.size) → dgt s[n] = false) :
    Calls Tryz.prog 177 #[.pointer (some ⟨g, 0, none⟩)] w fun e w' => e = .returned (.string (s.extract 0 n)) ∧ w' = (w.setCell ⟨g, 0, none⟩ (.string (s.extract n s.size))).setCell ⟨g, 1, none⟩ (.bool (b || ((n : Int) == 0))) := by
  obtain ⟨hg, c0, c1, f0, f1⟩ := hr
  go_enter Tryz.func177, Tryz.ntmps177
  go_wp2_with fail
  go_loopw [3] (fun i wr => ∃ k : Nat, i = .int .i64 k ∧ k ≤ n ∧ wr = w) (fun i _ => n - (intOf i).toNat)
  case atStart => exact ⟨0, rfl, by omega, rfl⟩
  case round =>
    obtain ⟨k, rfl, hk, rfl⟩ := hrel
    rcases Nat.lt_or_ge k n with hlt | hge
    · have h1 : k < s.size := by omega
      have hdd := hd k h1 hlt
      simp only [dgt, Bool.and_eq_true, decide_eq_true_eq] at hdd
      have d1 : (48 : Int) ≤ (s[k].toNat : Int) := by omega
      have d2 : (s[k].toNat : Int) ≤ 57 := by omega
      clear hdd hd he
      go_wp2_with fail
      go_round
      case rel => exact ⟨k + 1, by simp, by omega, trivial⟩
      case measure => simp [intOf]; omega
    · obtain rfl : k = n := by omega
      have hc : (∃ h : k < s.size, (s[k].toNat : Int) < 48) ∨ (∃ h : k < s.size, 57 < (s[k].toNat : Int)) ∨ ¬ k < s.size := by
        by_cases h : k < s.size
        · have := he h
          simp only [dgt, Bool.and_eq_false_iff, decide_eq_false_iff_not] at this
          by_cases h2 : s[k].toNat < 48
          · exact .inl ⟨h, by omega⟩
          · exact .inr (.inl ⟨h, by omega⟩)
        · exact .inr (.inr h)
      clear hd he
      rcases hc with ⟨h1, h2⟩ | ⟨h1, h2⟩ | h1
      · cases b
        · go_wp2_with fail
          go_ret
          exact ⟨rfl, rfl⟩
        · go_wp2_with fail
          go_ret
          exact ⟨rfl, rfl⟩
      · have h3 : (48 : Int) ≤ (s[k].toNat : Int) := by omega
        cases b
        · go_wp2_with fail
          go_ret
          exact ⟨rfl, rfl⟩
        · go_wp2_with fail
          go_ret
          exact ⟨rfl, rfl⟩
      · cases b
        · go_wp2_with fail
          go_ret
          exact ⟨rfl, rfl⟩
        · go_wp2_with fail
          go_ret
          exact ⟨rfl, rfl⟩

/-- A read with a longer reader: 'take' of one byte. -/
theorem take_at (s : ByteArray) (c : UInt8) (g : Nat) (b : Bool) (w : World) (hr : Rd w g s b) :
    Calls Tryz.prog 141 #[.pointer (some ⟨g, 0, none⟩), .string ⟨#[c]⟩] w fun e w' => e = .returned (.bool (Lib.hasPrefix s.data.toList [c])) ∧ w' = w.setCell ⟨g, 0, none⟩ (.string ⟨(Lib.trimPrefix s.data.toList [c]).toArray⟩) := by
  obtain ⟨hg, c0, c1, f0, f1⟩ := hr
  go_enter Tryz.func141, Tryz.ntmps141
  go_wp2_with fail
  refine (Tryz.strings_CutPrefix s ⟨#[c]⟩ w).mono ?_
  rintro e w1 ⟨rfl, rfl⟩
  go_wp2_with fail
  go_ret
  exact ⟨rfl, rfl⟩

set_option maxHeartbeats 1000000 in
/-- 'whole': the digits at the beginning; more than one may not begin with 0. -/
theorem whole_at (s t : ByteArray) (n g : Nat) (b z : Bool) (w : World) (hr : Rd w g s b) (hn : n ≤ s.size) (hs : s.size ≤ 9223372036854775807)
    (hd : ∀ i, (h : i < s.size) → i < n → dgt s[i] = true) (he : (h : n < s.size) → dgt s[n] = false) (ht : t = s.extract 0 n)
    (hz1 : n ≤ 1 → z = false) (hz2 : (h : 0 < t.size) → 1 < n → z = ((t[0].toNat : Int) == 48)) :
    Calls Tryz.prog 175 #[.pointer (some ⟨g, 0, none⟩)] w fun e w' => e = .returned (.string t) ∧ w' = ((w.setCell ⟨g, 0, none⟩ (.string (s.extract n s.size))).setCell ⟨g, 1, none⟩ (.bool (b || ((n : Int) == 0)))).setCell ⟨g, 1, none⟩ (.bool ((b || ((n : Int) == 0)) || z)) := by
  have H := run_at s n g b w hr hn hs hd he
  have hs0 : t.size = n := by rw [ht]; simp; omega
  rw [← ht] at H
  obtain ⟨hg, c0, c1, f0, f1⟩ := hr
  obtain ⟨B, hB⟩ : ∃ B, B = (b || ((n : Int) == 0)) := ⟨_, rfl⟩
  rw [← hB] at H ⊢
  clear hd he ht hB
  have hns : n ≤ 9223372036854775807 := by omega
  go_enter Tryz.func175, Tryz.ntmps175
  go_wp2_with fail
  refine H.mono ?_
  rintro e w1 ⟨rfl, rfl⟩
  clear H
  cases B
  · by_cases h1 : 1 < n
    · have z1 := hz2 (by omega) h1
      have t1 : decide (1 < (t.size : Int)) = true := by rw [hs0, decide_eq_true_eq]; omega
      have h0 : 0 < t.size := by omega
      clear hz1 hz2
      cases z
      · have t2 : ((t[0].toNat : Int) == 48) = false := z1.symm
        clear z1
        go_wp2_with fail
        go_ret
        exact ⟨rfl, rfl⟩
      · have t2 : ((t[0].toNat : Int) == 48) = true := z1.symm
        clear z1
        go_wp2_with fail
        go_ret
        exact ⟨rfl, rfl⟩
    · have t1 : decide (1 < (t.size : Int)) = false := by rw [hs0, decide_eq_false_iff_not]; omega
      obtain rfl := hz1 (by omega)
      clear hz1 hz2
      go_wp2_with fail
      go_ret
      exact ⟨rfl, rfl⟩
  · clear hz1 hz2
    go_wp2_with fail
    go_ret
    exact ⟨rfl, rfl⟩

end Go.Proofs.YtgpmlhpgdalheaaGreat

namespace Go.Proofs.YtgpmlhpgdalheaaGreat
open Go.RowKit Pl
set_option linter.unusedVariables false
set_option linter.unusedSimpArgs false

/-- The value of decimal digits. -/
def vd (l : List UInt8) : Nat := l.foldl (fun v c => 10 * v + (c.toNat - 48)) 0
theorem vd_acc (l : List UInt8) : ∀ v : Nat, l.foldl (fun v c => 10 * v + (c.toNat - 48)) v = v * 10 ^ l.length + vd l := by
  induction l with
  | nil => intro v; simp [vd]
  | cons c l ih =>
    intro v
    unfold vd
    rw [List.foldl_cons, List.foldl_cons, ih, ih, List.length_cons, Nat.pow_succ]
    grind
theorem vd_app (a b : List UInt8) : vd (a ++ b) = vd a * 10 ^ b.length + vd b := by
  show (a ++ b).foldl _ 0 = _
  rw [List.foldl_append]; exact vd_acc b _
def vdp (t : ByteArray) (k : Nat) : Nat := vd (t.data.toList.take k)
theorem vdp_zero (t : ByteArray) : vdp t 0 = 0 := by simp [vdp, vd]
theorem vdp_succ {t : ByteArray} {k : Nat} (h : k < t.size) : vdp t (k + 1) = 10 * vdp t k + (t[k].toNat - 48) := by
  unfold vdp
  have h' : k < t.data.toList.length := by simpa using h
  have e : t.data.toList.take (k + 1) = t.data.toList.take k ++ [t[k]] := by
    rw [List.take_succ_eq_append_getElem h']; rfl
  rw [e, vd_app]; simp [vd]; omega
theorem vdp_lt {t : ByteArray} {k : Nat} (hd : ∀ i, (h : i < t.size) → dgt t[i] = true) (hk : k ≤ t.size) : vdp t k < 10 ^ k := by
  induction k with
  | zero => rw [vdp_zero]; simp
  | succ k ih =>
    have h1 := ih (by omega)
    rw [vdp_succ (by omega), Nat.pow_succ]
    have h2 := hd k (by omega)
    simp only [dgt, Bool.and_eq_true, decide_eq_true_eq] at h2
    omega
theorem vd_split (t : ByteArray) (n : Nat) (h : n ≤ t.size) : vd t.data.toList = vdp t n * 10 ^ (t.size - n) + vd (t.extract n t.size).data.toList := by
  have e : (t.extract n t.size).data.toList = t.data.toList.drop n := by
    rw [ByteArray.data_extract]; simp
    rw [List.take_of_length_le]; simp
  rw [e]
  conv => lhs; rw [← List.take_append_drop n t.data.toList]
  rw [vd_app]; simp [vdp]
theorem vd_lt {t : ByteArray} (hd : ∀ i, (h : i < t.size) → dgt t[i] = true) : vd t.data.toList < 10 ^ t.size := by
  have h := vdp_lt hd (Nat.le_refl t.size)
  have e : vdp t t.size = vd t.data.toList := by unfold vdp; rw [List.take_of_length_le]; simp
  rwa [e] at h
theorem ln_ten {v k : Nat} (h : v < 10 ^ k) : ln v ≤ k := ln_le (Nat.lt_of_lt_of_le h (Nat.pow_le_pow_left (by omega) k))

set_option maxHeartbeats 4000000 in
theorem natFrom_any (s : ByteArray) (w : World) (hs : s.size ≤ 1099511627776) (hd : ∀ i, (h : i < s.size) → dgt s[i] = true) :
    Calls Tryz.prog 176 #[.string s] w (RetNat w (vd s.data.toList)) := by
  have HS := Lib.hid hs
  obtain ⟨V, hV⟩ : ∃ V, V = vd s.data.toList := ⟨_, rfl⟩
  have HD := Lib.hid hd
  rw [← hV]
  have HV := Lib.hid hV
  clear hs hd hV
  go_enter Tryz.func176, Tryz.ntmps176
  go_wp2_with fail
  go_loopg [0, 3] s.size (fun m u x wr => ∃ (t : ByteArray) (v : Nat) (A : Option Addr), u = .string t ∧ x = .slice A (ln v) (ln v) ∧ Hid (t.size = m ∧ m ≤ s.size) ∧ Hid (v * 10 ^ m + vd t.data.toList = V) ∧ Hid (∀ i, (h : i < t.size) → dgt t[i] = true) ∧ Hid (v < 10 ^ (s.size - m)) ∧ Nat32 wr A v ∧ Below w.heap.size w wr)
  case atStart => exact ⟨s, 0, none, rfl, by rw [ln_zero], Lib.hid ⟨rfl, Nat.le_refl _⟩, Lib.hid (by rw [HV.out]; simp), HD, Lib.hid (by simp), Nat32.zero _ _, Below.refl _ _⟩
  case round =>
    obtain ⟨t, v, A, rfl, rfl, hm, hv, hdt, hvl, hA, hb⟩ := hrel
    have HB := Lib.hid hb
    clear hb HD HV
    by_cases hm0 : gk = 0
    · have t1 : decide (0 < t.size) = false := by rw [hm.out.1, hm0]; rfl
      have E : v = V := by have := hv.out; have h := hm.out.1; have h2 := vd_lt hdt.out; rw [h, hm0] at h2; rw [hm0] at this; omega
      go_wp2_with fail
      go_ret
      rw [← E]
      exact ⟨A, rfl, hA, HB.out⟩
    · have t1 : decide (0 < t.size) = true := by rw [hm.out.1, decide_eq_true_eq]; omega
      obtain ⟨n, hn⟩ : ∃ n : Nat, n = min t.size 9 := ⟨_, rfl⟩
      have HM := Lib.hid hn
      have HN : Hid (n ≤ 9 ∧ n ≤ t.size ∧ 0 < n) := Lib.hid (by have := hm.out.1; omega)
      clear hn
      go_wp2_with fail
      rw [show min (t.size : Int) 9 = (n : Int) by rw [HM.out]; omega]
      clear t1
      go_loopg [5, 6, 15] n (fun m u x i wq => ∃ k : Nat, i = .int .i64 k ∧ Hid (k + m = n) ∧ u = .int .u64 (vdp t k : Nat) ∧ x = .int .u64 (10 ^ k : Nat) ∧ wq = wr)
      case atStart => exact ⟨0, rfl, Lib.hid (by omega), by rw [vdp_zero]; rfl, rfl, rfl⟩
      case round =>
        obtain ⟨k, rfl, hk, rfl, rfl, rfl⟩ := hrel
        by_cases hc : k < n
        · have hkt : k < t.size := by have := HN.out; omega
          have hdd := hdt.out k hkt
          simp only [dgt, Bool.and_eq_true, decide_eq_true_eq] at hdd
          have hk9 : k ≤ 8 := by have := HN.out; omega
          have b1 : vdp t k < 1000000000 := by
            have h1 := vdp_lt hdt.out (Nat.le_of_lt hkt)
            have h2 : 10 ^ k ≤ 10 ^ 8 := Nat.pow_le_pow_right (by omega) hk9
            have h3 : (10 : Nat) ^ 8 = 100000000 := by decide
            omega
          have E : Hid (vdp t (k + 1) = 10 * vdp t k + (t[k].toNat - 48)) := Lib.hid (vdp_succ hkt)
          have E2 : Hid (10 ^ (k + 1) = 10 * 10 ^ k) := Lib.hid (by rw [Nat.pow_succ]; omega)
          have b2 : 10 ^ k < 1000000000 := by
            have h2 : 10 ^ k ≤ 10 ^ 8 := Nat.pow_le_pow_right (by omega) hk9
            have h3 : (10 : Nat) ^ 8 = 100000000 := by decide
            omega
          generalize vdp t k = P at *
          generalize 10 ^ k = T at *
          go_wp2_with fail
          go_roundg (gk - 1)
          case measure => have := hk.out; omega
          case rel => exact ⟨k + 1, by simp, Lib.hid (by have := hk.out; omega), by rw [E.out]; congr 1; omega, by rw [E2.out]; congr 1, rfl⟩
        · have hc1 : ¬ (k : Int) < n := by omega
          obtain rfl : k = n := by have := hk.out; omega
          have hnt : k ≤ t.size := HN.out.2.1
          have hts : t.size ≤ 1099511627776 := by have := HS.out; have := hm.out; omega
          obtain ⟨T, hT⟩ : ∃ T : Nat, T = 10 ^ k := ⟨_, rfl⟩
          obtain ⟨P, hP⟩ : ∃ P : Nat, P = vdp t k := ⟨_, rfl⟩
          rw [← hT, ← hP]
          have h9 : 10 ^ k ≤ 10 ^ 9 := Nat.pow_le_pow_right (by omega) HN.out.1
          have HPT : Hid (P < 10 ^ k) := Lib.hid (by rw [hP]; exact vdp_lt hdt.out hnt)
          have HTB : Hid (T < 18446744073709551616) := Lib.hid (by rw [hT]; have h3 : (10 : Nat) ^ 9 = 1000000000 := by decide
                                                                   omega)
          have HPB : Hid (P < 18446744073709551616) := Lib.hid (by have := HPT.out; rw [← hT] at this; have := HTB.out; omega)
          have LT : Hid (ln T ≤ 35184372088832) := Lib.hid (Nat.le_trans (ln_le (k := 2) HTB.out) (by omega))
          have LP : Hid (ln P ≤ 35184372088832) := Lib.hid (Nat.le_trans (ln_le (k := 2) HPB.out) (by omega))
          have LV : Hid (ln v ≤ 35184372088832) := Lib.hid (by have := ln_ten hvl.out; have := HS.out; omega)
          have HVT : Hid (v * T + P < 10 ^ (s.size - (t.size - k))) := Lib.hid (by
            have h1 := hvl.out
            have h2 := hm.out
            rw [← h2.1] at h1 h2
            have h3 := HPT.out
            rw [show s.size - (t.size - k) = s.size - t.size + k by omega, Nat.pow_add, ← hT]
            rw [← hT] at h3
            have h4 : (v + 1) * T ≤ 10 ^ (s.size - t.size) * T := Nat.mul_le_mul_right _ h1
            rw [Nat.add_mul] at h4
            omega)
          have HSP : Hid ((v * T + P) * 10 ^ (t.size - k) + vd (t.extract k t.size).data.toList = V) := Lib.hid (by
            have h1 := hv.out
            rw [← hm.out.1, vd_split t k hnt, ← hP] at h1
            rw [← h1, hT, show t.size = k + (t.size - k) by omega, Nat.pow_add, show k + (t.size - k) - k = t.size - k by omega, Nat.add_mul, Nat.mul_assoc]
            omega)
          have LVT : Hid (ln (v * T) ≤ 35184372088832) := Lib.hid (by have := ln_ten (Nat.lt_of_le_of_lt (Nat.le_add_right _ P) HVT.out); have := HS.out; omega)
          have HT := Lib.hid hT
          have HP := Lib.hid hP
          have HDT : Hid (∀ i, (h : i < (t.extract k t.size).size) → dgt (t.extract k t.size)[i] = true) := Lib.hid (fun i h => by
            rw [ByteArray.getElem_extract]; exact hdt.out _ _)
          have HZ : Hid ((t.extract k t.size).size = t.size - k) := Lib.hid (by simp)
          clear hT hP h9 hc hk
          go_wp2_with fail
          go_region_held3 (fun w' => True) (first | with_reducible exact trivial) (first
            | (go_at_call_of 168 (Value.int .u64 (T : Nat)); refine (natOf_any T HTB.out _).mono ?_; rintro e w1 ⟨AT, rfl, hAT, hb1⟩; replace hb1 := undrew hb1; replace hA := hA.to hb1; replace HB := Lib.hid (hstep HB hb1); clear hb1)
            | (go_at_call 99; refine (mul_any v T A AT _ (by exact hA) (by exact hAT) LV.out LT.out).mono ?_; rintro e w2 ⟨AM, rfl, hAM, hb2⟩; replace HB := Lib.hid (hstep HB hb2); clear hb2 hA hAT)
            | (go_at_call_of 168 (Value.int .u64 (P : Nat)); refine (natOf_any P HPB.out _).mono ?_; rintro e w3 ⟨AP, rfl, hAP, hb3⟩; replace hAM := hAM.to hb3; replace HB := Lib.hid (hstep HB hb3); clear hb3)
            | (go_at_call 160; refine (add_any (v * T) P AM AP _ (by exact hAM) (by exact hAP) LVT.out LP.out).mono ?_; rintro e w4 ⟨AR, rfl, hAR, hb4⟩; replace HB := Lib.hid (hstep HB hb4); clear hb4 hAM hAP))
          go_wp2_with fail
          go_roundg (t.size - k)
          case measure => have := HN.out; have := hm.out; omega
          case rel => exact ⟨t.extract k t.size, v * T + P, AR, rfl, rfl, Lib.hid ⟨HZ.out, by have := hm.out; omega⟩, HSP, HDT, HVT, hAR, HB.out⟩

end Go.Proofs.YtgpmlhpgdalheaaGreat

namespace Go.Proofs.YtgpmlhpgdalheaaGreat
open Go.RowKit Pl
set_option linter.unusedVariables false
set_option linter.unusedSimpArgs false

/-- A list of bytes as a string. -/
def bs (l : List UInt8) : ByteArray := ⟨l.toArray⟩
theorem bs_size (l : List UInt8) : (bs l).size = l.length := by simp [bs, ByteArray.size]
theorem bs_list (l : List UInt8) : (bs l).data.toList = l := by simp [bs]
theorem bs_get (l : List UInt8) (i : Nat) (h : i < (bs l).size) : (bs l)[i] = l[i]'(by rwa [bs_size] at h) := by
  rfl
theorem bs_ext {a b : ByteArray} (h : a.data.toList = b.data.toList) : a = b := by
  cases a; cases b; simp at h; rw [h]
theorem bs_app (a b : List UInt8) : bs a ++ bs b = bs (a ++ b) := bs_ext (by simp [bs, ByteArray.data_append])
theorem bs_left (a b : List UInt8) : (bs (a ++ b)).extract 0 a.length = bs a := bs_ext (by
  rw [ByteArray.data_extract]; simp [bs])
theorem bs_right (a b : List UInt8) : (bs (a ++ b)).extract a.length (bs (a ++ b)).size = bs b := bs_ext (by
  rw [ByteArray.data_extract, bs_size]; simp [bs])

/-- The bytes of the decimal digits of a number. -/
def dl (n : Nat) : List UInt8 := if n = 0 then [48] else (rd n).reverse.map fun d => UInt8.ofNat (48 + d)
theorem fold_push (l : List Int) : ∀ s : ByteArray, (l.foldl (fun r n => r.push (UInt8.ofNat n.toNat)) s).data.toList = s.data.toList ++ l.map (fun n => UInt8.ofNat n.toNat) := by
  induction l with
  | nil => intro s; simp
  | cons a l ih => intro s; rw [List.foldl_cons, ih]; simp [ByteArray.push]
theorem dec_dl (n : Nat) : dec n = bs (dl n) := bs_ext (by
  unfold dec dl
  by_cases h : n = 0
  · rw [if_pos h, if_pos h]; rfl
  · rw [if_neg h, if_neg h, fold_push, bs_list]
    rw [show ByteArray.empty.data.toList = [] from rfl, List.nil_append, List.map_map]
    apply List.map_congr_left
    intro d _
    show UInt8.ofNat ((48 + d : Nat) : Int).toNat = _
    rw [Int.toNat_natCast])
theorem rd_lt {n : Nat} : ∀ d ∈ rd n, d < 10 := by
  induction n using Nat.strongRecOn with
  | ind n ih =>
    intro d hd
    by_cases h : n = 0
    · rw [h, rd_zero] at hd; cases hd
    · rw [rd_pos h] at hd
      rcases List.mem_cons.1 hd with e | e
      · omega
      · exact ih _ (by omega) d e
theorem dig_nat {d : Nat} (h : d < 10) : (UInt8.ofNat (48 + d)).toNat = 48 + d := by
  rw [UInt8.toNat_ofNat']; omega
theorem dl_dgt {n : Nat} : ∀ c ∈ dl n, dgt c = true := by
  intro c hc
  unfold dl at hc
  by_cases h : n = 0
  · rw [if_pos h] at hc; simp at hc; subst hc; rfl
  · rw [if_neg h] at hc
    obtain ⟨d, hd, rfl⟩ := List.mem_map.1 hc
    have := rd_lt d (List.mem_reverse.1 hd)
    simp only [dgt, dig_nat this, Bool.and_eq_true, decide_eq_true_eq]; omega
theorem vd_dl (n : Nat) : vd (dl n) = n := by
  unfold dl
  by_cases h : n = 0
  · rw [if_pos h, h]; rfl
  · rw [if_neg h]
    clear h
    induction n using Nat.strongRecOn with
    | ind n ih =>
      by_cases h : n = 0
      · rw [h, rd_zero]; rfl
      · rw [rd_pos h, List.reverse_cons, List.map_append, vd_app, ih _ (by omega)]
        simp only [List.map_cons, List.map_nil, List.length_cons, List.length_nil]
        rw [show vd [UInt8.ofNat (48 + n % 10)] = n % 10 by unfold vd; simp only [List.foldl_cons, List.foldl_nil]; rw [dig_nat (by omega)]; omega]
        omega
theorem dl_ne (n : Nat) : dl n ≠ [] := by
  unfold dl
  by_cases h : n = 0
  · rw [if_pos h]; simp
  · rw [if_neg h, rd_pos h]; simp
theorem rd_head {n : Nat} : ∀ h : rd n ≠ [], (rd n).getLast h ≠ 0 := by
  induction n using Nat.strongRecOn with
  | ind n ih =>
    intro hne
    have h : n ≠ 0 := fun e => hne (by rw [e, rd_zero])
    have e := rd_pos h
    by_cases h2 : n / 10 = 0
    · have e2 : rd n = [n % 10] := by rw [e, h2, rd_zero]
      have : (rd n).getLast hne = n % 10 := by simp [e2]
      rw [this]; omega
    · have h3 : rd (n / 10) ≠ [] := by rw [rd_pos h2]; simp
      have : (rd n).getLast hne = (rd (n / 10)).getLast h3 := by simp [e, List.getLast_cons h3]
      rw [this]; exact ih _ (by omega) h3
theorem dl_head {n : Nat} (h : 1 < (dl n).length) : ∃ c l, dl n = c :: l ∧ c.toNat ≠ 48 := by
  have hn : n ≠ 0 := fun e => by rw [e] at h; simp [dl] at h
  have hne : rd n ≠ [] := by rw [rd_pos hn]; simp
  have hl := rd_head hne
  have hlt := rd_lt _ (List.getLast_mem hne)
  refine ⟨UInt8.ofNat (48 + (rd n).getLast hne), ((rd n).dropLast).reverse.map fun d => UInt8.ofNat (48 + d), ?_, ?_⟩
  · unfold dl
    rw [if_neg hn]
    conv => lhs; rw [← List.dropLast_concat_getLast hne]
    simp
  · rw [dig_nat hlt]; omega

/-- What stands behind a number's digits: nothing, or a byte that is none. -/
def ndg (r : List UInt8) : Prop := ∀ c ∈ r.head?, dgt c = false

/-- 'take' where the byte is next. -/
theorem take_hit (c : UInt8) (l : List UInt8) (g : Nat) (b : Bool) (w : World) (hr : Rd w g (bs (c :: l)) b) :
    Calls Tryz.prog 141 #[.pointer (some ⟨g, 0, none⟩), .string ⟨#[c]⟩] w fun e w' => e = .returned (.bool true) ∧ Rd w' g (bs l) b ∧ Ap g w w' := by
  refine (take_at _ c g b w hr).mono ?_
  rintro e w' ⟨rfl, rfl⟩
  rw [bs_list, show Lib.hasPrefix (c :: l) [c] = true by simp [Lib.hasPrefix], show Lib.trimPrefix (c :: l) [c] = l by simp [Lib.trimPrefix, Lib.hasPrefix]]
  exact ⟨rfl, hr.set0, (Ap.refl _ _).set⟩
/-- 'take' where another byte, or nothing, is next. -/
theorem take_miss (c : UInt8) (l : List UInt8) (g : Nat) (b : Bool) (w : World) (hr : Rd w g (bs l) b) (h : ∀ x ∈ l.head?, x ≠ c) :
    Calls Tryz.prog 141 #[.pointer (some ⟨g, 0, none⟩), .string ⟨#[c]⟩] w fun e w' => e = .returned (.bool false) ∧ Rd w' g (bs l) b ∧ Ap g w w' := by
  refine (take_at _ c g b w hr).mono ?_
  rintro e w' ⟨rfl, rfl⟩
  have e1 : Lib.hasPrefix l [c] = false := by
    cases l with
    | nil => simp [Lib.hasPrefix]
    | cons x l => have := h x (by simp); have hb : (c == x) = false := by { rw [beq_eq_false_iff_ne]; exact fun e => this e.symm }; simp [Lib.hasPrefix, List.isPrefixOf, hb]
  rw [bs_list, e1, show Lib.trimPrefix l [c] = l by simp [Lib.trimPrefix, e1]]
  exact ⟨rfl, hr.set0, (Ap.refl _ _).set⟩

/-- 'whole' where the digits of a number are next. -/
theorem whole_dl (n : Nat) (r : List UInt8) (g : Nat) (w : World) (hr : Rd w g (bs (dl n ++ r)) false) (hs : (dl n ++ r).length ≤ 9223372036854775807) (h : ndg r) :
    Calls Tryz.prog 175 #[.pointer (some ⟨g, 0, none⟩)] w fun e w' => e = .returned (.string (bs (dl n))) ∧ Rd w' g (bs r) false ∧ Ap g w w' := by
  have hp : 0 < (dl n).length := by have := dl_ne n; cases h : dl n with | nil => exact absurd h this | cons a l => simp
  refine (whole_at (bs (dl n ++ r)) (bs (dl n)) (dl n).length g false false w hr (by rw [bs_size]; simp) (by rw [bs_size]; exact hs) ?_ ?_ (bs_left _ _).symm (fun _ => rfl) ?_).mono ?_
  · intro i h1 h2
    rw [bs_get, List.getElem_append_left h2]
    exact dl_dgt _ (List.getElem_mem h2)
  · intro h1
    rw [bs_size] at h1
    rw [bs_get, List.getElem_append_right (Nat.le_refl _)]
    apply h
    have : 0 < r.length := by simp at h1; omega
    cases r with
    | nil => simp at this
    | cons x r => simp
  · intro h1 h2
    obtain ⟨c, l, e, hc⟩ := dl_head h2
    rw [bs_get]
    symm
    rw [beq_eq_false_iff_ne]
    have : (dl n)[0]'(by omega) = c := by simp [e]
    rw [this]; omega
  · rintro e w' ⟨rfl, rfl⟩
    rw [bs_right]
    have e0 : (((dl n).length : Int) == 0) = false := by rw [beq_eq_false_iff_ne]; omega
    rw [e0]
    exact ⟨rfl, hr.set0.set1.set1, (((Ap.refl _ _).set).set).set⟩

/-- 'natFrom' of a number's digits. -/
theorem natFrom_dl (n : Nat) (w : World) (hs : (dl n).length ≤ 1099511627776) :
    Calls Tryz.prog 176 #[.string (bs (dl n))] w (RetNat w n) := by
  have := natFrom_any (bs (dl n)) w (by rw [bs_size]; exact hs) (fun i h => by rw [bs_get]; exact dl_dgt _ (List.getElem_mem _))
  rwa [bs_list, vd_dl] at this

end Go.Proofs.YtgpmlhpgdalheaaGreat

namespace Go.Proofs.YtgpmlhpgdalheaaGreat
open Go.RowKit Pl
set_option linter.unusedVariables false
set_option linter.unusedSimpArgs false

def RetMag (g : Nat) (r : List UInt8) (n d : Nat) (w : World) (e : Ending) (w' : World) : Prop :=
  ∃ A D, e = .returned (.tuple #[.slice A (ln n) (ln n), .slice D (ln d) (ln d)]) ∧ Nat32 w' A n ∧ Nat32 w' D d ∧ Rd w' g (bs r) false ∧ Ap g w w'
/-- What may stand behind a number. -/
def nmg (r : List UInt8) : Prop := ∀ x ∈ r.head?, dgt x = false ∧ x ≠ 47 ∧ x ≠ 46 ∧ x ≠ 101
theorem nmg.dg {r : List UInt8} (h : nmg r) : ndg r := fun c hc => (h c hc).1
theorem Rd.alloc {w : World} {g : Nat} {s : ByteArray} {b : Bool} (h : Rd w g s b) (o : Obj) : Rd (w.alloc o) g s b := h.to ((Below.refl _ _).alloc (Nat.le_refl _) o)

set_option maxHeartbeats 1000000 in
theorem mag_whole (n : Nat) (r : List UInt8) (g : Nat) (w : World) (hr : Rd w g (bs (dl n ++ r)) false) (hs : (dl n ++ r).length ≤ 1099511627776) (h : nmg r) :
    Calls Tryz.prog 142 #[.pointer (some ⟨g, 0, none⟩)] w (RetMag g r n 1 w) := by
  have HS := Lib.hid hs
  have HN := Lib.hid h
  have HR := Lib.hid hr
  clear hs h hr
  go_enter Tryz.func142, Tryz.ntmps142
  go_wp2_with fail
  refine (whole_dl n r g w HR.out (by have := HS.out; omega) HN.out.dg).mono ?_
  rintro e w1 ⟨rfl, hr1, ap1⟩
  have hg := HR.out.1
  clear HR
  go_wp2_with fail
  have h1 := nat1_new w1 45
  replace hr1 := hr1.alloc (.cells #[.int .u32 1] 45)
  replace ap1 := ap1.alloc hg (.cells #[.int .u32 1] 45)
  generalize w1.heap.size = p at *
  generalize w1.alloc (.cells #[.int .u32 1] 45) = w2 at *
  refine (take_miss 47 r g false _ hr1 (fun x hx => (HN.out x hx).2.1)).mono ?_
  rintro e w3 ⟨rfl, hr3, ap3⟩
  replace h1 := ap3.nat hr1 h1
  replace ap1 := ap1.trans ap3
  clear hr1 ap3
  go_wp2_with fail
  refine (take_miss 46 r g false _ hr3 (fun x hx => (HN.out x hx).2.2.1)).mono ?_
  rintro e w4 ⟨rfl, hr4, ap4⟩
  replace h1 := ap4.nat hr3 h1
  replace ap1 := ap1.trans ap4
  clear hr3 ap4
  go_wp2_with fail
  refine (natFrom_dl n _ (by have := HS.out; simp at this; omega)).mono ?_
  rintro e w5 ⟨A, rfl, hA, hb5⟩
  replace h1 := h1.to hb5
  replace ap1 := ap1.trans (Ap.of hb5 hr4.1)
  replace hr4 := hr4.to hb5
  clear hb5
  go_wp2_with fail
  refine (take_miss 101 r g false _ hr4 (fun x hx => (HN.out x hx).2.2.2)).mono ?_
  rintro e w6 ⟨rfl, hr6, ap6⟩
  replace h1 := ap6.nat hr4 h1
  replace hA := ap6.nat hr4 hA
  replace ap1 := ap1.trans ap6
  clear hr4 ap6
  go_wp2_with fail
  refine bodyPost_ret (v := .tuple #[.slice A (ln n) (ln n), .slice (some ⟨p, 0, none⟩) 1 1]) (by simp [results, Tryz.results142, go_sem]) rfl ?_
  exact ⟨A, some ⟨p, 0, none⟩, by rw [ln_one], hA, h1, hr6, ap1⟩

set_option maxHeartbeats 1000000 in
theorem mag_frac (n d : Nat) (r : List UInt8) (g : Nat) (w : World) (hr : Rd w g (bs (dl n ++ 47 :: (dl d ++ r))) false) (hs : (dl n ++ 47 :: (dl d ++ r)).length ≤ 1099511627776) (h : ndg r) :
    Calls Tryz.prog 142 #[.pointer (some ⟨g, 0, none⟩)] w (RetMag g r n d w) := by
  have HS := Lib.hid hs
  have HN := Lib.hid h
  have HR := Lib.hid hr
  clear hs h hr
  go_enter Tryz.func142, Tryz.ntmps142
  go_wp2_with fail
  refine (whole_dl n (47 :: (dl d ++ r)) g w HR.out (by have := HS.out; omega) (fun c hc => by simp at hc; subst hc; rfl)).mono ?_
  rintro e w1 ⟨rfl, hr1, ap1⟩
  have hg := HR.out.1
  clear HR
  go_wp2_with fail
  replace hr1 := hr1.alloc (.cells #[.int .u32 1] 45)
  replace ap1 := ap1.alloc hg (.cells #[.int .u32 1] 45)
  generalize w1.heap.size = p at *
  generalize w1.alloc (.cells #[.int .u32 1] 45) = w2 at *
  refine (take_hit 47 (dl d ++ r) g false _ hr1).mono ?_
  rintro e w3 ⟨rfl, hr3, ap3⟩
  replace ap1 := ap1.trans ap3
  clear hr1 ap3
  go_wp2_with fail
  refine (natFrom_dl n _ (by have := HS.out; simp at this; omega)).mono ?_
  rintro e w5 ⟨A, rfl, hA, hb5⟩
  replace ap1 := ap1.trans (Ap.of hb5 hr3.1)
  replace hr3 := hr3.to hb5
  clear hb5
  go_wp2_with fail
  refine (whole_dl d r g _ hr3 (by have := HS.out; simp at this ⊢; omega) HN.out).mono ?_
  rintro e w6 ⟨rfl, hr6, ap6⟩
  replace hA := ap6.nat hr3 hA
  replace ap1 := ap1.trans ap6
  clear hr3 ap6
  go_wp2_with fail
  refine (natFrom_dl d _ (by have := HS.out; simp at this; omega)).mono ?_
  rintro e w7 ⟨D, rfl, hD, hb7⟩
  replace hA := hA.to hb7
  replace ap1 := ap1.trans (Ap.of hb7 hr6.1)
  replace hr6 := hr6.to hb7
  clear hb7
  go_wp2_with fail
  refine bodyPost_ret (v := .tuple #[.slice A (ln n) (ln n), .slice D (ln d) (ln d)]) (by simp [results, Tryz.results142, go_sem]) rfl ?_
  exact ⟨A, D, rfl, hA, hD, hr6, ap1⟩

end Go.Proofs.YtgpmlhpgdalheaaGreat
