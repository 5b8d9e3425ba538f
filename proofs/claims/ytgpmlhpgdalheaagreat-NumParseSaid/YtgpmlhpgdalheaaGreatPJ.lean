/- The program's 'ten': a power of ten. The program's reader over any list of bytes: run, whole. The program's 'magnitude' without an exponent, over any bytes. The program's 'magnitude' with an exponent, over any bytes. The program's 'magnitude' over any bytes: what it computes. What the program's 'Parse' computes; the sizes of what 'magnitude' hands back. -/
import Derived.Test.YtgpmlhpgdalheaaGreatPA
import Derived.Deep.DeepCutAuto
import Derived.ArgAppend
import Derived.Laws.Cover1
import Derived.Deep.AppendLies
namespace Go.Proofs.YtgpmlhpgdalheaaGreat
open Go.RowKit Pl
set_option linter.unusedVariables false
set_option linter.unusedSimpArgs false

theorem ln_small {n : Nat} (h0 : n ≠ 0) (h : n < 4294967296) : ln n = 1 := by
  have h1 := ln_pos h0
  have h2 := ln_le (n := n) (k := 1) (by omega)
  omega
theorem small_new (V : World) (T : TypeId) (n : Nat) (h0 : n ≠ 0) (h : n < 4294967296) : Nat32 (V.alloc (.cells #[.int .u32 (n : Nat)] T)) (some ⟨V.heap.size, 0, none⟩) n := fun _ => ⟨V.heap.size, rfl, by simp, fun j hj => by
  rw [ln_small h0 h] at hj; obtain rfl : j = 0 := by omega
  rw [World.cell?_alloc_new]
  rw [wd_0, Nat.mod_eq_of_lt h]; rfl⟩
theorem mul_small (x n : Nat) (h0 : n ≠ 0) (h : n < 4294967296) (v : Nat) (hv : v = x * n) (A B : Option Addr) (w : World) (hx : Nat32 w A x) (hy : Nat32 w B n) (hb : ln x ≤ 35184372088832) :
    Calls Tryz.prog 99 #[.slice A (ln x) (ln x), .slice B 1 1] w (RetNat w v) := by
  have h := mul_any x n A B w hx hy hb (by rw [ln_small h0 h]; omega)
  rw [ln_small h0 ‹_›, ← hv] at h
  exact h

theorem wrap_sub9 {g : Nat} (h : 9 ≤ g) (hg : g ≤ 1000000) : wrap64 ((g : Int) - 9) = ((g - 9 : Nat) : Int) := by simp [wrap64]; omega
theorem wrap_sub1 {g : Nat} (h : g ≠ 0) (hg : g ≤ 1000000) : wrap64 ((g : Int) - 1) = ((g - 1 : Nat) : Int) := by simp [wrap64]; omega
set_option maxHeartbeats 1000000 in
/-- 'ten(n)'. -/
theorem ten_any (N : Nat) (w : World) (hN : N ≤ 1000000) : Calls Tryz.prog 178 #[.int .i64 (N : Nat)] w (RetNat w (10 ^ N)) := by
  have HN := Lib.hid hN
  obtain ⟨V, hV⟩ : ∃ V, V = 10 ^ N := ⟨_, rfl⟩
  have HV : Hid (ln V ≤ 1000000 ∧ V = 10 ^ N) := Lib.hid ⟨by
    have := ln_ten (v := V) (k := N + 1) (by rw [hV]; exact Nat.pow_lt_pow_right (by omega) (by omega))
    rw [hV]
    have h2 : 10 ^ N < 4294967296 ^ N ∨ N = 0 := by
      by_cases h : N = 0
      · exact .inr h
      · exact .inl (Nat.pow_lt_pow_left (by omega) h)
    rcases h2 with h2 | h2
    · have := ln_le (n := 10 ^ N) (k := N) h2; omega
    · rw [h2, Nat.pow_zero, ln_one]; omega, hV⟩
  rw [← hV]
  clear hV hN
  go_enter Tryz.func178, Tryz.ntmps178
  go_wp2_with fail
  have h1 := nat1_new w 45
  have hb0 : Below w.heap.size w (w.alloc (.cells #[.int .u32 1] 45)) := (Below.refl _ _).alloc (Nat.le_refl _) _
  go_loopg [0, 3] N (fun m u x wr => u = .int .i64 (m : Nat) ∧ Hid (m ≤ 1000000) ∧ ∃ (v : Nat) (A : Option Addr), x = .slice A (ln v) (ln v) ∧ Hid (v * 10 ^ m = V) ∧ Nat32 wr A v ∧ Below w.heap.size w wr)
  case atStart => exact ⟨rfl, HN, 1, _, by rw [ln_one], Lib.hid (by rw [HV.out.2]; omega), h1, hb0⟩
  case round =>
    obtain ⟨rfl, hm, v, A, rfl, hv, hA, hb⟩ := hrel
    clear h1 hb0
    have HB := Lib.hid hb
    clear hb
    have LV : Hid (ln v ≤ 35184372088832) := Lib.hid (by
      have h1 : v ≤ V := by rw [← hv.out]; exact Nat.le_mul_of_pos_right _ (Nat.pow_pos (by omega))
      exact Nat.le_trans (ln_mono h1) (Nat.le_trans HV.out.1 (by omega)))
    by_cases h9 : 9 ≤ gk
    · have t1 : decide (9 ≤ gk) = true := decide_eq_true h9
      have t2 : decide ((9 : Int) ≤ (gk : Int)) = true := decide_eq_true (by omega)
      go_wp2_with fail
      have hn := small_new wr 45 1000000000 (by omega) (by omega)
      refine (mul_small v 1000000000 (by omega) (by omega) _ rfl A _ _ (by exact hA.alloc _) (by exact hn) LV.out).mono ?_
      rintro e w1 ⟨A1, rfl, hA1, hb1⟩
      replace hb1 := unalloc hb1
      replace HB := Lib.hid (hstep HB hb1)
      clear hb1 hn hA
      go_wp2_with fail
      go_roundg (gk - 9)
      case measure => omega
      case rel => exact ⟨by rw [wrap_sub9 h9 hm.out], Lib.hid (by have := hm.out; omega), v * 1000000000, A1, rfl, Lib.hid (by rw [← hv.out, show gk = 9 + (gk - 9) by omega, Nat.pow_add, show (10 : Nat) ^ 9 = 1000000000 by decide, Nat.mul_assoc]; simp), hA1, HB.out⟩
    · have t1 : decide (9 ≤ gk) = false := decide_eq_false h9
      have t2 : decide ((9 : Int) ≤ (gk : Int)) = false := decide_eq_false (by omega)
      go_wp2_with fail
      go_loopg [0, 3] gk (fun m u x wr => u = .int .i64 (m : Nat) ∧ Hid (m ≤ 9) ∧ ∃ (v : Nat) (A : Option Addr), x = .slice A (ln v) (ln v) ∧ Hid (v * 10 ^ m = V) ∧ Nat32 wr A v ∧ Below w.heap.size w wr)
      case atStart => exact ⟨rfl, Lib.hid (by omega), v, A, rfl, hv, hA, HB.out⟩
      case round =>
        clear hA hv HB LV t1 t2 h9
        obtain ⟨rfl, h9, v, A, rfl, hv, hA, hb⟩ := hrel
        have HB := Lib.hid hb
        clear hb
        have LV : Hid (ln v ≤ 35184372088832) := Lib.hid (by
          have h1 : v ≤ V := by rw [← hv.out]; exact Nat.le_mul_of_pos_right _ (Nat.pow_pos (by omega))
          exact Nat.le_trans (ln_mono h1) (Nat.le_trans HV.out.1 (by omega)))
        by_cases h0 : gk = 0
        · have t1 : decide (0 < gk) = false := by rw [h0]; rfl
          have E : v = V := by rw [← hv.out, h0]; simp
          go_wp2_with fail
          go_ret
          rw [← E]
          exact ⟨A, rfl, hA, HB.out⟩
        · have t1 : decide (0 < gk) = true := by simpa using (show 0 < gk by omega)
          go_wp2_with fail
          have hn := small_new wr 45 10 (by omega) (by omega)
          refine (mul_small v 10 (by omega) (by omega) _ rfl A _ _ (by exact hA.alloc _) (by exact hn) LV.out).mono ?_
          rintro e w1 ⟨A1, rfl, hA1, hb1⟩
          replace hb1 := unalloc hb1
          replace HB := Lib.hid (hstep HB hb1)
          clear hb1 hn hA
          go_wp2_with fail
          go_roundg (gk - 1)
          case measure => omega
          case rel => exact ⟨by rw [wrap_sub1 h0 (by have := h9.out; omega)], Lib.hid (by have := h9.out; omega), v * 10, A1, rfl, Lib.hid (by rw [← hv.out, show gk = 1 + (gk - 1) by omega, Nat.pow_add, Nat.mul_assoc]; simp), hA1, HB.out⟩
end Go.Proofs.YtgpmlhpgdalheaaGreat

namespace Go.Proofs.YtgpmlhpgdalheaaGreat
open Go.RowKit Pl
set_option linter.unusedVariables false
set_option linter.unusedSimpArgs false

def dgs (l : List UInt8) : List UInt8 := l.takeWhile dgt
def dgr (l : List UInt8) : List UInt8 := l.dropWhile dgt
theorem dgs_dgr (l : List UInt8) : dgs l ++ dgr l = l := List.takeWhile_append_dropWhile
theorem dgs_dgt {l : List UInt8} : ∀ c ∈ dgs l, dgt c = true := fun c hc => by
  induction l with
  | nil => simp [dgs] at hc
  | cons x l ih =>
    unfold dgs at hc
    rw [List.takeWhile_cons] at hc
    split at hc
    · rcases List.mem_cons.1 hc with e | e
      · rw [e]; assumption
      · exact ih e
    · simp at hc
theorem dgr_ndg (l : List UInt8) : ndg (dgr l) := fun c hc => by
  induction l with
  | nil => simp [dgr] at hc
  | cons x l ih =>
    unfold dgr at hc
    rw [List.dropWhile_cons] at hc
    split at hc
    · exact ih hc
    · rename_i h
      simp at hc; subst hc; simpa using h
/-- A superfluous zero. -/
def hd48 : List UInt8 → Bool
  | c :: _ => c.toNat == 48
  | [] => false
def lead0 (s : List UInt8) : Bool := decide (1 < s.length) && hd48 s
theorem lead_get (s : List UInt8) (h : 0 < s.length) : hd48 s = ((s[0].toNat : Int) == 48) := by
  cases s with
  | nil => simp at h
  | cons c s => show (c.toNat == 48) = ((c.toNat : Int) == 48); rw [Bool.eq_iff_iff, beq_iff_eq, beq_iff_eq]; omega
theorem emp_len (s : List UInt8) : ((s.length : Int) == 0) = s.isEmpty := by cases s with | nil => rfl | cons a s => simp; omega

theorem dgs_le (l : List UInt8) : (dgs l).length ≤ l.length := by
  have e := congrArg List.length (dgs_dgr l)
  rw [List.length_append] at e; omega
theorem get_left (l l' : List UInt8) (he : dgs l ++ dgr l = l') (i : Nat) (h1 : i < l'.length) (h2 : i < (dgs l).length) : l'[i] = (dgs l)[i] := by
  subst he; exact List.getElem_append_left h2
theorem right_pos (l l' : List UInt8) (he : dgs l ++ dgr l = l') (h1 : (dgs l).length < l'.length) : 0 < (dgr l).length := by
  subst he; simp at h1; omega
theorem get_right (l l' : List UInt8) (he : dgs l ++ dgr l = l') (h1 : (dgs l).length < l'.length) : l'[(dgs l).length] = (dgr l)[0]'(right_pos l l' he h1) := by
  subst he; simp [List.getElem_append_right]
theorem run_list (l : List UInt8) (g : Nat) (b : Bool) (w : World) (hr : Rd w g (bs l) b) (hs : l.length ≤ 9223372036854775807) :
    Calls Tryz.prog 177 #[.pointer (some ⟨g, 0, none⟩)] w fun e w' => e = .returned (.string (bs (dgs l))) ∧ Rd w' g (bs (dgr l)) (b || (dgs l).isEmpty) ∧ Ap g w w' := by
  have e := dgs_dgr l
  refine (run_at (bs l) (dgs l).length g b w hr (by rw [bs_size]; exact dgs_le l) (by rw [bs_size]; exact hs) ?_ ?_).mono ?_
  · intro i h1 h2
    rw [bs_get]
    rw [get_left l _ e i _ h2]; exact dgs_dgt _ (List.getElem_mem h2)
  · intro h1
    rw [bs_size] at h1
    rw [bs_get]
    apply dgr_ndg l
    rw [get_right l _ e h1]
    exact List.head?_eq_getElem?.trans (List.getElem?_eq_getElem _)
  · rintro e' w' ⟨rfl, rfl⟩
    have h1 := bs_left (dgs l) (dgr l)
    have h2 := bs_right (dgs l) (dgr l)
    rw [e] at h1 h2
    rw [h1, h2, emp_len]
    exact ⟨rfl, hr.set0.set1, ((Ap.refl _ _).set).set⟩
theorem whole_list (l : List UInt8) (g : Nat) (b : Bool) (w : World) (hr : Rd w g (bs l) b) (hs : l.length ≤ 9223372036854775807) :
    Calls Tryz.prog 175 #[.pointer (some ⟨g, 0, none⟩)] w fun e w' => e = .returned (.string (bs (dgs l))) ∧ Rd w' g (bs (dgr l)) ((b || (dgs l).isEmpty) || lead0 (dgs l)) ∧ Ap g w w' := by
  have e := dgs_dgr l
  have h1 := bs_left (dgs l) (dgr l)
  have h2 := bs_right (dgs l) (dgr l)
  rw [e] at h1 h2
  refine (whole_at (bs l) (bs (dgs l)) (dgs l).length g b (lead0 (dgs l)) w hr (by rw [bs_size]; exact dgs_le l) (by rw [bs_size]; exact hs) ?_ ?_ h1.symm ?_ ?_).mono ?_
  · intro i h1 h2
    rw [bs_get]
    rw [get_left l _ e i _ h2]; exact dgs_dgt _ (List.getElem_mem h2)
  · intro h1
    rw [bs_size] at h1
    rw [bs_get]
    apply dgr_ndg l
    rw [get_right l _ e h1]
    exact List.head?_eq_getElem?.trans (List.getElem?_eq_getElem _)
  · intro h
    unfold lead0
    rw [decide_eq_false (by omega)]; rfl
  · intro h1 h2
    unfold lead0
    rw [decide_eq_true h2, bs_get]
    rw [Bool.true_and]
    exact lead_get _ _
  · rintro e' w' ⟨rfl, rfl⟩
    rw [h2, emp_len]
    exact ⟨rfl, hr.set0.set1.set1, (((Ap.refl _ _).set).set).set⟩
/-- 'natFrom' of digits. -/
theorem natFrom_list (s : List UInt8) (w : World) (hd : ∀ c ∈ s, dgt c = true) (hs : s.length ≤ 1099511627776) :
    Calls Tryz.prog 176 #[.string (bs s)] w (RetNat w (vd s)) := by
  have := natFrom_any (bs s) w (by rw [bs_size]; exact hs) (fun i h => by rw [bs_get]; exact hd _ (List.getElem_mem _))
  rwa [bs_list] at this
/-- 'take' of one byte, whatever is next. -/
theorem take_list (c : UInt8) (l : List UInt8) (g : Nat) (b : Bool) (w : World) (hr : Rd w g (bs l) b) :
    Calls Tryz.prog 141 #[.pointer (some ⟨g, 0, none⟩), .string ⟨#[c]⟩] w fun e w' => e = .returned (.bool (decide (l.head? = some c))) ∧ Rd w' g (bs (if l.head? = some c then l.tail else l)) b ∧ Ap g w w' := by
  by_cases h : l.head? = some c
  · rw [decide_eq_true h, if_pos h]
    cases l with
    | nil => simp at h
    | cons x l => simp at h; subst h; exact take_hit x l g b w hr
  · rw [decide_eq_false h, if_neg h]
    exact take_miss c l g b w hr (fun x hx e => h (by rw [← e]; exact hx))
end Go.Proofs.YtgpmlhpgdalheaaGreat

namespace Go.Proofs.YtgpmlhpgdalheaaGreat
open Go.RowKit Pl
set_option linter.unusedVariables false
set_option linter.unusedSimpArgs false

def RetMagG (g : Nat) (r : List UInt8) (b : Bool) (n d : Nat) (w : World) (e : Ending) (w' : World) : Prop :=
  ∃ A D, e = .returned (.tuple #[.slice A (ln n) (ln n), .slice D (ln d) (ln d)]) ∧ Nat32 w' A n ∧ Nat32 w' D d ∧ Rd w' g (bs r) b ∧ Ap g w w'
/-- The mark behind 'whole'. -/
def wb (b : Bool) (s : List UInt8) : Bool := (b || s.isEmpty) || lead0 s
theorem dgr_le (l : List UInt8) : (dgr l).length ≤ l.length := by
  have e := congrArg List.length (dgs_dgr l)
  rw [List.length_append] at e; omega
theorem tail_le (l : List UInt8) : l.tail.length ≤ l.length := by simp

set_option maxHeartbeats 1000000 in
theorem mag_slash (l : List UInt8) (g : Nat) (b : Bool) (w : World) (hr : Rd w g (bs l) b) (hs : l.length ≤ 1000000) (h : (dgr l).head? = some 47) :
    Calls Tryz.prog 142 #[.pointer (some ⟨g, 0, none⟩)] w (RetMagG g (dgr (dgr l).tail) (wb (wb b (dgs l)) (dgs (dgr l).tail)) (vd (dgs l)) (vd (dgs (dgr l).tail)) w) := by
  have HS : Hid (l.length ≤ 1000000 ∧ (dgs l).length ≤ 1000000 ∧ (dgr l).length ≤ 1000000 ∧ (dgs (dgr l).tail).length ≤ 1000000 ∧ (dgr l).tail.length ≤ 1000000) := Lib.hid (by have h1 := dgs_le l; have h2 := dgr_le l; have h3 := dgs_le (dgr l).tail; have h4 := tail_le (dgr l); omega)
  have hrd := hr
  have hg := hr.1
  have AP : Ap g w w := Ap.refl _ _
  have H := Lib.hid h
  clear hr hs h
  go_enter Tryz.func142, Tryz.ntmps142
  go_wp2_with fail
  refine (whole_list l g b _ hrd (by have := HS.out; omega)).mono ?_
  rintro e w1 ⟨rfl, hn, ap⟩
  replace AP := AP.trans ap
  replace hrd := hn
  clear ap
  go_wp2_with fail
  have h1 : Nat32 (w1.alloc (.cells #[.int .u32 1] 45)) (some ⟨w1.heap.size, 0, none⟩) 1 := nat1_new _ _
  replace AP := AP.alloc hg (.cells #[.int .u32 1] 45)
  replace hrd := hrd.alloc (.cells #[.int .u32 1] 45)
  generalize w1.heap.size = p at *
  generalize w1.alloc (.cells #[.int .u32 1] 45) = W at *
  refine (take_list 47 (dgr l) g _ _ hrd).mono ?_
  rintro e w2 ⟨rfl, hn, ap⟩
  replace h1 := ap.nat hrd h1
  replace AP := AP.trans ap
  replace hrd := hn
  clear ap
  rw [if_pos H.out] at hrd
  rw [decide_eq_true H.out]
  go_wp2_with fail
  refine (natFrom_list (dgs l) _ dgs_dgt (by have := HS.out; omega)).mono ?_
  rintro e w3 ⟨A, rfl, hA, hb⟩
  replace h1 := h1.to hb
  replace AP := AP.trans (Ap.of hb hrd.1)
  replace hrd := hrd.to hb
  clear hb
  go_wp2_with fail
  refine (whole_list (dgr l).tail g _ _ hrd (by have := HS.out; omega)).mono ?_
  rintro e w4 ⟨rfl, hn, ap⟩
  replace h1 := ap.nat hrd h1
  replace hA := ap.nat hrd hA
  replace AP := AP.trans ap
  replace hrd := hn
  clear ap
  go_wp2_with fail
  refine (natFrom_list (dgs (dgr l).tail) _ dgs_dgt (by have := HS.out; omega)).mono ?_
  rintro e w5 ⟨D, rfl, hD, hb⟩
  replace h1 := h1.to hb
  replace hA := hA.to hb
  replace AP := AP.trans (Ap.of hb hrd.1)
  replace hrd := hrd.to hb
  clear hb
  go_wp2_with fail
  refine bodyPost_ret (v := .tuple #[.slice A (ln (vd (dgs l))) (ln (vd (dgs l))), .slice D (ln (vd (dgs (dgr l).tail))) (ln (vd (dgs (dgr l).tail)))]) (by simp [results, Tryz.results142, go_sem]) rfl ?_
  exact ⟨A, D, rfl, hA, hD, hrd, AP⟩

set_option maxHeartbeats 1000000 in
theorem mag_plain (l : List UInt8) (g : Nat) (b : Bool) (w : World) (hr : Rd w g (bs l) b) (hs : l.length ≤ 1000000) (h1 : (dgr l).head? ≠ some 47) (h2 : (dgr l).head? ≠ some 46) (h3 : (dgr l).head? ≠ some 101) :
    Calls Tryz.prog 142 #[.pointer (some ⟨g, 0, none⟩)] w (RetMagG g (dgr l) (wb b (dgs l)) (vd (dgs l)) 1 w) := by
  have HS : Hid (l.length ≤ 1000000 ∧ (dgs l).length ≤ 1000000 ∧ (dgr l).length ≤ 1000000 ∧ (dgs (dgr l).tail).length ≤ 1000000 ∧ (dgr l).tail.length ≤ 1000000) := Lib.hid (by have h1 := dgs_le l; have h2 := dgr_le l; have h3 := dgs_le (dgr l).tail; have h4 := tail_le (dgr l); omega)
  have hrd := hr
  have hg := hr.1
  have AP : Ap g w w := Ap.refl _ _
  have H1 := Lib.hid h1
  have H2 := Lib.hid h2
  have H3 := Lib.hid h3
  clear hr hs h1 h2 h3
  go_enter Tryz.func142, Tryz.ntmps142
  go_wp2_with fail
  refine (whole_list l g b _ hrd (by have := HS.out; omega)).mono ?_
  rintro e w1 ⟨rfl, hn, ap⟩
  replace AP := AP.trans ap
  replace hrd := hn
  clear ap
  go_wp2_with fail
  have h1 : Nat32 (w1.alloc (.cells #[.int .u32 1] 45)) (some ⟨w1.heap.size, 0, none⟩) 1 := nat1_new _ _
  replace AP := AP.alloc hg (.cells #[.int .u32 1] 45)
  replace hrd := hrd.alloc (.cells #[.int .u32 1] 45)
  generalize w1.heap.size = p at *
  generalize w1.alloc (.cells #[.int .u32 1] 45) = W at *
  refine (take_list 47 (dgr l) g _ _ hrd).mono ?_
  rintro e w2 ⟨rfl, hn, ap⟩
  replace h1 := ap.nat hrd h1
  replace AP := AP.trans ap
  replace hrd := hn
  clear ap
  rw [if_neg H1.out] at hrd
  rw [decide_eq_false H1.out]
  go_wp2_with fail
  refine (take_list 46 (dgr l) g _ _ hrd).mono ?_
  rintro e w3 ⟨rfl, hn, ap⟩
  replace h1 := ap.nat hrd h1
  replace AP := AP.trans ap
  replace hrd := hn
  clear ap
  rw [if_neg H2.out] at hrd
  rw [decide_eq_false H2.out]
  go_wp2_with fail
  refine (natFrom_list (dgs l) _ dgs_dgt (by have := HS.out; omega)).mono ?_
  rintro e w4 ⟨A, rfl, hA, hb⟩
  replace h1 := h1.to hb
  replace AP := AP.trans (Ap.of hb hrd.1)
  replace hrd := hrd.to hb
  clear hb
  go_wp2_with fail
  refine (take_list 101 (dgr l) g _ _ hrd).mono ?_
  rintro e w5 ⟨rfl, hn, ap⟩
  replace h1 := ap.nat hrd h1
  replace hA := ap.nat hrd hA
  replace AP := AP.trans ap
  replace hrd := hn
  clear ap
  rw [if_neg H3.out] at hrd
  rw [decide_eq_false H3.out]
  go_wp2_with fail
  refine bodyPost_ret (v := .tuple #[.slice A (ln (vd (dgs l))) (ln (vd (dgs l))), .slice (some ⟨p, 0, none⟩) 1 1]) (by simp [results, Tryz.results142, go_sem]) rfl ?_
  exact ⟨A, some ⟨p, 0, none⟩, by rw [ln_one], hA, h1, hrd, AP⟩

set_option maxHeartbeats 1000000 in
theorem mag_point (l : List UInt8) (g : Nat) (b : Bool) (w : World) (hr : Rd w g (bs l) b) (hs : l.length ≤ 1000000) (h1 : (dgr l).head? = some 46) (h3 : (dgr (dgr l).tail).head? ≠ some 101) :
    Calls Tryz.prog 142 #[.pointer (some ⟨g, 0, none⟩)] w (RetMagG g (dgr (dgr l).tail) (wb b (dgs l) || (dgs (dgr l).tail).isEmpty) (vd (dgs l ++ dgs (dgr l).tail)) (10 ^ (dgs (dgr l).tail).length) w) := by
  have HS : Hid (l.length ≤ 1000000 ∧ (dgs l).length ≤ 1000000 ∧ (dgr l).length ≤ 1000000 ∧ (dgs (dgr l).tail).length ≤ 1000000 ∧ (dgr l).tail.length ≤ 1000000) := Lib.hid (by have h1 := dgs_le l; have h2 := dgr_le l; have h3 := dgs_le (dgr l).tail; have h4 := tail_le (dgr l); omega)
  have hrd := hr
  have hg := hr.1
  have AP : Ap g w w := Ap.refl _ _
  have H1 := Lib.hid h1
  have H2 : Hid ((dgr l).head? ≠ some 47) := Lib.hid (by rw [h1]; simp)
  have H3 := Lib.hid h3
  clear hr hs h1 h3
  go_enter Tryz.func142, Tryz.ntmps142
  go_wp2_with fail
  refine (whole_list l g b _ hrd (by have := HS.out; omega)).mono ?_
  rintro e w1 ⟨rfl, hn, ap⟩
  replace AP := AP.trans ap
  replace hrd := hn
  clear ap
  go_wp2_with fail
  have h1 : Nat32 (w1.alloc (.cells #[.int .u32 1] 45)) (some ⟨w1.heap.size, 0, none⟩) 1 := nat1_new _ _
  replace AP := AP.alloc hg (.cells #[.int .u32 1] 45)
  replace hrd := hrd.alloc (.cells #[.int .u32 1] 45)
  generalize w1.heap.size = p at *
  generalize w1.alloc (.cells #[.int .u32 1] 45) = W at *
  refine (take_list 47 (dgr l) g _ _ hrd).mono ?_
  rintro e w2 ⟨rfl, hn, ap⟩
  replace h1 := ap.nat hrd h1
  replace AP := AP.trans ap
  replace hrd := hn
  clear ap
  rw [if_neg H2.out] at hrd
  rw [decide_eq_false H2.out]
  go_wp2_with fail
  refine (take_list 46 (dgr l) g _ _ hrd).mono ?_
  rintro e w3 ⟨rfl, hn, ap⟩
  replace h1 := ap.nat hrd h1
  replace AP := AP.trans ap
  replace hrd := hn
  clear ap
  rw [if_pos H1.out] at hrd
  rw [decide_eq_true H1.out]
  go_wp2_with fail
  refine (run_list (dgr l).tail g _ _ hrd (by have := HS.out; omega)).mono ?_
  rintro e w4 ⟨rfl, hn, ap⟩
  replace h1 := ap.nat hrd h1
  replace AP := AP.trans ap
  replace hrd := hn
  clear ap
  have z1 : ¬ (9223372036854775807 < (bs (dgs l)).size + (bs (dgs (dgr l).tail)).size) := by rw [bs_size, bs_size]; have := HS.out; omega
  go_wp2_with fail
  rw [bs_size]
  refine (ten_any (dgs (dgr l).tail).length _ (by have := HS.out; omega)).mono ?_
  rintro e w5 ⟨D, rfl, hD, hb⟩
  replace h1 := h1.to hb
  replace AP := AP.trans (Ap.of hb hrd.1)
  replace hrd := hrd.to hb
  clear hb
  rw [bs_app]
  clear z1
  go_wp2_with fail
  refine (natFrom_list (dgs l ++ dgs (dgr l).tail) _ (fun c hc => by rcases List.mem_append.1 hc with h | h <;> exact dgs_dgt _ h) (by rw [List.length_append]; have := HS.out; omega)).mono ?_
  rintro e w6 ⟨A, rfl, hA, hb⟩
  replace h1 := h1.to hb
  replace hD := hD.to hb
  replace AP := AP.trans (Ap.of hb hrd.1)
  replace hrd := hrd.to hb
  clear hb
  go_wp2_with fail
  refine (take_list 101 (dgr (dgr l).tail) g _ _ hrd).mono ?_
  rintro e w7 ⟨rfl, hn, ap⟩
  replace h1 := ap.nat hrd h1
  replace hD := ap.nat hrd hD
  replace hA := ap.nat hrd hA
  replace AP := AP.trans ap
  replace hrd := hn
  clear ap
  rw [if_neg H3.out] at hrd
  rw [decide_eq_false H3.out]
  go_wp2_with fail
  refine bodyPost_ret (v := .tuple #[.slice A (ln (vd (dgs l ++ dgs (dgr l).tail))) (ln (vd (dgs l ++ dgs (dgr l).tail))), .slice D (ln (10 ^ (dgs (dgr l).tail).length)) (ln (10 ^ (dgs (dgr l).tail).length))]) (by simp [results, Tryz.results142, go_sem]) rfl ?_
  exact ⟨A, D, rfl, hA, hD, hrd, AP⟩

end Go.Proofs.YtgpmlhpgdalheaaGreat

namespace Go.Proofs.YtgpmlhpgdalheaaGreat
open Go.RowKit Pl
set_option linter.unusedVariables false
set_option linter.unusedSimpArgs false

/-- Behind the exponent's sign. -/
def sgr (r : List UInt8) : List UInt8 := if r.head? = some 45 then r.tail else r
theorem sgr_le (r : List UInt8) : (sgr r).length ≤ r.length := by unfold sgr; split <;> simp
theorem vd_three {s : List UInt8} (h : s.length ≤ 3) (hd : ∀ c ∈ s, dgt c = true) : vd s < 1000 := by
  have h1 := vd_lt (t := bs s) (fun i h => by rw [bs_get]; exact hd _ (List.getElem_mem _))
  rw [bs_list, bs_size] at h1
  exact Nat.lt_of_lt_of_le h1 (by
    have : 10 ^ s.length ≤ 10 ^ 3 := Nat.pow_le_pow_right (by omega) h
    omega)
/-- The exponent is above 400. -/
def g400 (s : List UInt8) : Bool := !(Op.bytesLess s [52, 48, 48] || s == [52, 48, 48])
theorem bs_toList (s : List UInt8) : (bs s).toList = s := by rw [ByteArray.toList_eq, bs_list]
theorem s400 : (⟨#[52, 48, 48]⟩ : ByteArray).toList = [52, 48, 48] := by rw [ByteArray.toList_eq]
/-- The cells of a number in words. -/
def wcs (n : Nat) : List Value := (List.range (ln n)).map fun j => Value.int .u32 (wd n j : Nat)
theorem wcs_len (n : Nat) : (wcs n).length = ln n := by simp [wcs]
theorem wcs_cells {w : World} {A : Option Addr} {n : Nat} (h : Nat32 w A n) : ∀ b, A = some b → ∀ j u, (wcs n)[j]? = some u → w.cell? (b.add j) = some u := by
  intro b hb j u hu
  have hj : j < ln n := by
    rw [← wcs_len n]
    rcases Nat.lt_or_ge j (wcs n).length with h | h
    · exact h
    · rw [List.getElem?_eq_none h] at hu; cases hu
  have h0 : n ≠ 0 := fun e => by rw [e, ln_zero] at hj; omega
  obtain ⟨c, e, _, hc⟩ := h h0
  rw [hb] at e
  injection e with e
  subst e
  have hu2 : u = .int .u32 (wd n j : Nat) := by
    have : (wcs n)[j]? = some (.int .u32 (wd n j : Nat)) := by simp [wcs, hj]
    rw [this] at hu; injection hu with hu; exact hu.symm
  rw [hu2]
  have := hc j hj
  unfold Addr.add
  split
  · rename_i h; subst h; exact this
  · simpa using this
theorem wcs_none {w : World} {A : Option Addr} {n : Nat} (h : Nat32 w A n) (hA : A = none) : ln n = 0 ∧ ln n = 0 := by
  by_cases h0 : n = 0
  · rw [h0, ln_zero]; exact ⟨rfl, rfl⟩
  · obtain ⟨c, e, _⟩ := h h0; rw [hA] at e; cases e
theorem wcs_first {n : Nat} (h : n < 4294967296) : (wcs n ++ [Value.int .u32 0])[0]? = some (.int .u32 (n : Nat)) := by
  by_cases h0 : n = 0
  · have : wcs n = [] := List.eq_nil_of_length_eq_zero (by rw [wcs_len, h0, ln_zero])
    rw [this, h0]; rfl
  · have hl := ln_small h0 h
    have : 0 < (wcs n).length := by rw [wcs_len, hl]; omega
    rw [List.getElem?_append_left this]
    simp [wcs, hl]
    rw [wd_0, Nat.mod_eq_of_lt h]
theorem wrap_small {v : Nat} (h : v < 1000000) : wrap64 (v : Int) = (v : Int) := by simp [wrap64]; omega
theorem vd_all {s : List UInt8} (hd : ∀ c ∈ s, dgt c = true) : vd s < 10 ^ s.length := by
  have h := vd_lt (t := bs s) (fun i h => by rw [bs_get]; exact hd _ (List.getElem_mem _))
  rwa [bs_list, bs_size] at h
theorem one_mulE (d : Nat) (A B : Option Addr) (w : World) (hx : Nat32 w A d) (hy : Nat32 w B 1) (hb : ln d ≤ 35184372088832) :
    Calls Tryz.prog 99 #[.slice B 1 1, .slice A (ln d) (ln d)] w (RetNat w d) := by
  have h := mul_any 1 d B A w hy hx (by rw [ln_one]; omega) hb
  rwa [ln_one, Nat.one_mul] at h

/-- Behind an 'e': numerator and denominator, the mark, what is left. -/
def mgE (S : List UInt8) (D : Nat) (b : Bool) (r : List UInt8) : (Nat × Nat) × Bool × List UInt8 :=
  if wb b (dgs (sgr r.tail)) = true ∨ 3 < (dgs (sgr r.tail)).length ∨ ((dgs (sgr r.tail)).length = 3 ∧ g400 (dgs (sgr r.tail)) = true) then ((0, 1), true, dgr (sgr r.tail))
  else if r.tail.head? = some 45 then ((vd S, D * 10 ^ vd (dgs (sgr r.tail))), false, dgr (sgr r.tail))
  else ((vd S * 10 ^ vd (dgs (sgr r.tail)), D), false, dgr (sgr r.tail))
theorem g400_no {s : List UInt8} (h : ¬ g400 s = true) : Op.bytesLess s [52, 48, 48] = true ∨ (Op.bytesLess s [52, 48, 48] = false ∧ s = [52, 48, 48]) := by
  unfold g400 at h
  cases hb : Op.bytesLess s [52, 48, 48] with
  | true => exact .inl rfl
  | false => rw [hb] at h; right; exact ⟨rfl, by simpa using h⟩
set_option maxRecDepth 100000 in
set_option maxHeartbeats 4000000 in
theorem mag_en (l : List UInt8) (g : Nat) (b : Bool) (w : World) (hr : Rd w g (bs l) b) (hs : l.length ≤ 1000000) (h1 : (dgr l).head? ≠ some 46) (h2 : (dgr l).head? ≠ some 47) (h3 : (dgr l).head? = some 101) (M : (Nat × Nat) × Bool × List UInt8) (hM : M = mgE (dgs l) 1 (wb b (dgs l)) (dgr l)) :
    Calls Tryz.prog 142 #[.pointer (some ⟨g, 0, none⟩)] w (RetMagG g M.2.2 M.2.1 M.1.1 M.1.2 w) := by
  have HS : Hid (l.length ≤ 1000000 ∧ (dgs l).length ≤ 1000000 ∧ (dgr l).length ≤ 1000000 ∧ (dgs (dgr l).tail).length ≤ 1000000 ∧ (dgr l).tail.length ≤ 1000000) := Lib.hid (by have h1 := dgs_le l; have h2 := dgr_le l; have h3 := dgs_le (dgr l).tail; have h4 := tail_le (dgr l); omega)
  have hrd := hr
  have hg := hr.1
  have AP : Ap g w w := Ap.refl _ _
  have HT : Hid ((sgr (dgr l).tail).length ≤ 1000000) := Lib.hid (by have h1 := sgr_le (dgr l).tail; have h2 := tail_le (dgr l); have h3 := dgr_le (dgr l).tail; have := HS.out; omega)
  have H1 := Lib.hid h1
  have H2 := Lib.hid h2
  have H3 := Lib.hid h3
  have HMM := Lib.hid hM
  clear hr hs h1 h2 h3 hM
  go_enter Tryz.func142, Tryz.ntmps142
  go_wp2_with fail
  refine (whole_list l g b _ hrd (by have := HS.out; omega)).mono ?_
  rintro e w1 ⟨rfl, hn, ap⟩
  replace AP := AP.trans ap
  replace hrd := hn
  clear ap
  go_wp2_with fail
  have h1 : Nat32 (w1.alloc (.cells #[.int .u32 1] 45)) (some ⟨w1.heap.size, 0, none⟩) 1 := nat1_new _ _
  replace AP := AP.alloc hg (.cells #[.int .u32 1] 45)
  replace hrd := hrd.alloc (.cells #[.int .u32 1] 45)
  generalize w1.heap.size = p at *
  generalize w1.alloc (.cells #[.int .u32 1] 45) = W at *
  refine (take_list 47 (dgr l) g _ _ hrd).mono ?_
  rintro e w2 ⟨rfl, hn, ap⟩
  replace h1 := ap.nat hrd h1
  replace AP := AP.trans ap
  replace hrd := hn
  clear ap
  rw [if_neg H2.out] at hrd
  rw [decide_eq_false H2.out]
  go_wp2_with fail
  refine (take_list 46 (dgr l) g _ _ hrd).mono ?_
  rintro e w3 ⟨rfl, hn, ap⟩
  replace h1 := ap.nat hrd h1
  replace AP := AP.trans ap
  replace hrd := hn
  clear ap
  rw [if_neg H1.out] at hrd
  rw [decide_eq_false H1.out]
  go_wp2_with fail
  refine (natFrom_list (dgs l) _ dgs_dgt (by have := HS.out; omega)).mono ?_
  rintro e w4 ⟨A, rfl, hA, hb⟩
  replace h1 := h1.to hb
  replace AP := AP.trans (Ap.of hb hrd.1)
  replace hrd := hrd.to hb
  clear hb
  go_wp2_with fail
  refine (take_list 101 (dgr l) g _ _ hrd).mono ?_
  rintro e w5 ⟨rfl, hn, ap⟩
  replace h1 := ap.nat hrd h1
  replace hA := ap.nat hrd hA
  replace AP := AP.trans ap
  replace hrd := hn
  clear ap
  rw [if_pos H3.out] at hrd
  rw [decide_eq_true H3.out]
  go_wp2_with fail
  refine (take_list 45 (dgr l).tail g _ _ hrd).mono ?_
  rintro e w6 ⟨rfl, hn, ap⟩
  replace h1 := ap.nat hrd h1
  replace hA := ap.nat hrd hA
  replace AP := AP.trans ap
  replace hrd := hn
  clear ap
  have hrd0 := hrd
  replace hrd : Rd w6 g (bs (sgr (dgr l).tail)) (wb b (dgs l)) := hrd0
  clear hrd0
  obtain ⟨bl, hbl⟩ : ∃ bl, bl = decide ((dgr l).tail.head? = some 45) := ⟨_, rfl⟩
  rw [← hbl]
  have HBL := Lib.hid hbl
  clear hbl
  go_wp2_with fail
  refine (whole_list (sgr (dgr l).tail) g _ _ hrd (by have := HT.out; omega)).mono ?_
  rintro e w7 ⟨rfl, hn, ap⟩
  replace h1 := ap.nat hrd h1
  replace hA := ap.nat hrd hA
  replace AP := AP.trans ap
  replace hrd := hn
  clear ap
  obtain ⟨ES, hES⟩ : ∃ ES, ES = (dgs (sgr (dgr l).tail)) := ⟨_, rfl⟩
  obtain ⟨mk, hmk⟩ : ∃ mk, mk = wb (wb b (dgs l)) ES := ⟨_, rfl⟩
  replace hrd : Rd w7 g (bs (dgr (sgr (dgr l).tail))) mk := by rw [hmk, hES]; exact hrd
  obtain ⟨tt, htt⟩ : ∃ tt, tt = decide (mk = true ∨ 3 < ES.length ∨ (ES.length = 3 ∧ g400 ES = true)) := ⟨_, rfl⟩
  have HME : Hid (M = if tt = true then ((0, 1), true, dgr (sgr (dgr l).tail)) else if bl = true then ((vd (dgs l), 1 * 10 ^ vd ES), false, dgr (sgr (dgr l).tail)) else ((vd (dgs l) * 10 ^ vd ES, 1), false, dgr (sgr (dgr l).tail))) := Lib.hid (by
    rw [HMM.out, htt, HBL.out, hmk, hES]; unfold mgE; simp only [decide_eq_true_eq])
  rw [← hES]
  have HES := Lib.hid hES
  have HTT := Lib.hid htt
  have HDG : Hid (∀ c ∈ ES, dgt c = true) := Lib.hid (by rw [hES]; exact dgs_dgt)
  clear hES hmk htt HMM
  have q1 := hrd.2.2.1
  have q2 := hrd.2.2.2.2
  go_upto_region 12 with fail
  go_cut [59] (fun b wx => b = .bool tt ∧ wx = w7)
  case first =>
    cases mk with
    | true =>
      have e : tt = true := by rw [HTT.out]; exact decide_eq_true (.inl rfl)
      go_wp2_with fail; go_meet; exact ⟨by rw [e], rfl⟩
    | false =>
      by_cases c2 : 3 < ES.length
      · have e : tt = true := by rw [HTT.out]; exact decide_eq_true (.inr (.inl c2))
        have t1 : decide (3 < ((bs ES).size : Int)) = true := by rw [bs_size, decide_eq_true_eq]; omega
        clear c2
        go_wp2_with fail; go_meet; exact ⟨by rw [e], rfl⟩
      · have t1 : decide (3 < ((bs ES).size : Int)) = false := by rw [bs_size, decide_eq_false_iff_not]; omega
        by_cases c3 : ES.length = 3
        · have t2 : (((bs ES).size : Int) == 3) = true := by rw [bs_size, beq_iff_eq]; omega
          by_cases c4 : g400 ES = true
          · have e : tt = true := by rw [HTT.out]; exact decide_eq_true (.inr (.inr ⟨c3, c4⟩))
            have H7 : Op.bytesLess ES [52, 48, 48] = false ∧ ¬ ES = [52, 48, 48] := by unfold g400 at c4; simpa using c4
            have t3 : Op.bytesLess (bs ES).toList [52, 48, 48] = false := by rw [bs_toList]; exact H7.1
            have t6 : ¬ (bs ES).toList = [52, 48, 48] := by rw [bs_toList]; exact H7.2
            have t7 : ((bs ES).toList == [52, 48, 48]) = false := beq_eq_false_iff_ne.2 t6
            clear c2 c3 c4 H7
            go_wp2_with fail; go_meet; exact ⟨by rw [e], rfl⟩
          · have e : tt = false := by rw [HTT.out]; exact decide_eq_false (fun h => h.elim (by simp) (fun h => h.elim c2 (fun h => c4 h.2)))
            rcases g400_no c4 with h7 | ⟨h7, h8⟩
            · have t3 : Op.bytesLess (bs ES).toList [52, 48, 48] = true := by rw [bs_toList]; exact h7
              clear c2 c3 c4 h7
              go_wp2_with fail; go_meet; exact ⟨by rw [e], rfl⟩
            · have t3 : Op.bytesLess (bs ES).toList [52, 48, 48] = false := by rw [bs_toList]; exact h7
              have t6 : (bs ES).toList = [52, 48, 48] := by rw [bs_toList]; exact h8
              clear c2 c3 c4 h7 h8
              go_wp2_with fail; go_meet; exact ⟨by rw [e], rfl⟩
        · have t2 : (((bs ES).size : Int) == 3) = false := by rw [bs_size, beq_eq_false_iff_ne]; omega
          have e : tt = false := by rw [HTT.out]; exact decide_eq_false (fun h => h.elim (by simp) (fun h => h.elim c2 (fun h => c3 h.1)))
          clear c2 c3
          go_wp2_with fail; go_meet; exact ⟨by rw [e], rfl⟩
  case rest =>
  obtain ⟨hc1, hc2⟩ := hcut
  subst hc1
  rw [hc2]
  clear hc2 wc
  cases tt with
  | true =>
    have EM := Lib.hid (HME.out.trans (if_pos rfl))
    clear HES HDG
    go_wp2_with fail
    refine bodyPost_ret (v := .tuple #[.slice none 0 0, .slice (some ⟨w7.heap.size, 0, none⟩) 1 1]) (by simp [results, Tryz.results142, go_sem]) rfl ?_
    have hn1 := nat1_new (w7.setCell ⟨g, 1, none⟩ (.bool true)) 45
    rw [show (w7.setCell ⟨g, 1, none⟩ (.bool true)).heap.size = w7.heap.size by simp [World.setCell]] at hn1
    rw [EM.out]
    exact ⟨none, some ⟨w7.heap.size, 0, none⟩, by rw [ln_zero, ln_one], Nat32.zero _ _, hn1, (hrd.set1 (c := true)).alloc _, (AP.set (i := 1) (u := .bool true)).alloc hg _⟩
  | false =>
    have hn := of_decide_eq_false HTT.out.symm
    have hmk : mk = false := by cases mk with | false => rfl | true => exact absurd (.inl rfl) hn
    have H5 : Hid (ES.length ≤ 3) := Lib.hid (Nat.le_of_not_lt (fun h => hn (.inr (.inl h))))
    subst hmk
    replace HME := Lib.hid (HME.out.trans (if_neg (by simp)))
    have HE : Hid (ES.length ≤ 1099511627776) := Lib.hid (by have := H5.out; omega)
    have HV : Hid (vd ES < 1000) := Lib.hid (vd_three H5.out HDG.out)
    clear hn q2 HTT
    go_wp2_with fail
    clear q1
    refine (natFrom_list ES _ HDG.out HE.out).mono ?_
    rintro e w8 ⟨X, rfl, hX, hb⟩
    replace h1 := h1.to hb
    replace hA := hA.to hb
    replace AP := AP.trans (Ap.of hb hrd.1)
    replace hrd := hrd.to hb
    clear hb
    obtain ⟨v, hv⟩ : ∃ v, v = vd ES := ⟨_, rfl⟩
    rw [← hv] at hX ⊢
    have HVV := Lib.hid hv
    replace HV : Hid (v < 1000) := Lib.hid (by rw [hv]; exact HV.out)
    clear hv HDG HE H5
    have lv : ln v ≤ 1 := ln_le (by have := HV.out; omega)
    have hX0 := hX.alloc (.cells #[.int .u32 0] 45)
    obtain ⟨i0, hi, hz0, hz1, hz2⟩ := info_parts Tryz.info_u32
    go_wp2_with (at_builtin; (refine wpList_append_grows _ rfl _ _ 26 rfl 45 i0 (.int .u32 0) 1 4 Tryz.und_nat hi hz0 hz1 hz2 rfl (by decide) X (ln v) (ln v) (wcs v) rfl (wcs_none hX0) (by rw [wcs_len, Nat.mul_one]) (wcs_cells hX0) ⟨w8.heap.size, 0, none⟩ 1 1 [.int .u32 0] rfl rfl (cell_one_new _ _ _) (by intro u hu; simp at hu; subst hu; rfl) (by omega) (by unfold maxLen; omega) (by omega) ?_; intro v1 w20 hown hgrow; obtain ⟨ga, ca, hv1, hga, hgl⟩ := hown.form (by omega); subst hv1; have cz := hown.cellAt 0 (by omega); rw [wcs_first (by have := HV.out; omega)] at cz))
    have hb : Below w8.heap.size w8 w20 := ((Below.refl _ _).alloc (Nat.le_refl _) _).grown hgrow (by simp) (fun k h => by cases h)
    clear hX0 hX cz hown hgrow hga hgl
    replace h1 := h1.to hb
    replace hA := hA.to hb
    replace AP := AP.trans (Ap.of hb hrd.1)
    replace hrd := hrd.to hb
    clear hb
    rw [wrap_small (by have := HV.out; omega)]
    refine (ten_any v _ (by have := HV.out; omega)).mono ?_
    rintro e w21 ⟨U, rfl, hU, hb⟩
    replace h1 := h1.to hb
    replace hA := hA.to hb
    replace AP := AP.trans (Ap.of hb hrd.1)
    replace hrd := hrd.to hb
    clear hb
    have LU : Hid (ln (10 ^ v) ≤ 1001) := Lib.hid (Nat.le_trans (ln_ten (Nat.pow_lt_pow_right (by omega) (show v < v + 1 by omega))) (by have := HV.out; omega))
    have LS : Hid (ln (vd (dgs l)) ≤ 2000000) := Lib.hid (Nat.le_trans (ln_ten (vd_all (fun c hc => dgs_dgt _ hc))) (by have := HS.out; omega))
    rw [← HVV.out] at HME
    cases bl with
    | true =>
      have EM := Lib.hid (HME.out.trans (if_pos rfl))
      go_wp2_with fail
      refine (one_mulE (10 ^ v) U (some ⟨p, 0, none⟩) _ (by exact hU) (by exact h1) (Nat.le_trans LU.out (by omega))).mono ?_
      rintro e w22 ⟨P, rfl, hP, hb⟩
      replace h1 := h1.to hb
      replace hA := hA.to hb
      replace hU := hU.to hb
      replace AP := AP.trans (Ap.of hb hrd.1)
      replace hrd := hrd.to hb
      clear hb
      go_wp2_with fail
      refine bodyPost_ret (v := .tuple #[.slice A (ln (vd (dgs l))) (ln (vd (dgs l))), .slice P (ln (10 ^ v)) (ln (10 ^ v))]) (by simp [results, Tryz.results142, go_sem]) rfl ?_
      rw [EM.out]
      exact ⟨A, P, by show _ = Ending.returned (.tuple #[_, .slice P (ln (1 * 10 ^ v)) (ln (1 * 10 ^ v))]); rw [Nat.one_mul], hA, by show Nat32 _ P (1 * 10 ^ v); rw [Nat.one_mul]; exact hP, hrd, AP⟩
    | false =>
      have EM := Lib.hid (HME.out.trans (if_neg (by simp)))
      go_wp2_with fail
      refine (mul_any (vd (dgs l)) (10 ^ v) A U _ (by exact hA) (by exact hU) (Nat.le_trans LS.out (by omega)) (Nat.le_trans LU.out (by omega))).mono ?_
      rintro e w22 ⟨P, rfl, hP, hb⟩
      replace h1 := h1.to hb
      replace hA := hA.to hb
      replace hU := hU.to hb
      replace AP := AP.trans (Ap.of hb hrd.1)
      replace hrd := hrd.to hb
      clear hb
      go_wp2_with fail
      refine bodyPost_ret (v := .tuple #[.slice P (ln (vd (dgs l) * 10 ^ v)) (ln (vd (dgs l) * 10 ^ v)), .slice (some ⟨p, 0, none⟩) 1 1]) (by simp [results, Tryz.results142, go_sem]) rfl ?_
      rw [EM.out]
      exact ⟨P, (some ⟨p, 0, none⟩), by show _ = Ending.returned (.tuple #[_, .slice (some ⟨p, 0, none⟩) (ln 1) (ln 1)]); rw [ln_one], hP, h1, hrd, AP⟩

set_option maxRecDepth 100000 in
set_option maxHeartbeats 4000000 in
theorem mag_ep (l : List UInt8) (g : Nat) (b : Bool) (w : World) (hr : Rd w g (bs l) b) (hs : l.length ≤ 1000000) (h1 : (dgr l).head? = some 46) (h2 : (dgr l).head? ≠ some 47) (h3 : (dgr (dgr l).tail).head? = some 101) (M : (Nat × Nat) × Bool × List UInt8) (hM : M = mgE (dgs l ++ dgs (dgr l).tail) (10 ^ (dgs (dgr l).tail).length) (wb b (dgs l) || (dgs (dgr l).tail).isEmpty) (dgr (dgr l).tail)) :
    Calls Tryz.prog 142 #[.pointer (some ⟨g, 0, none⟩)] w (RetMagG g M.2.2 M.2.1 M.1.1 M.1.2 w) := by
  have HS : Hid (l.length ≤ 1000000 ∧ (dgs l).length ≤ 1000000 ∧ (dgr l).length ≤ 1000000 ∧ (dgs (dgr l).tail).length ≤ 1000000 ∧ (dgr l).tail.length ≤ 1000000) := Lib.hid (by have h1 := dgs_le l; have h2 := dgr_le l; have h3 := dgs_le (dgr l).tail; have h4 := tail_le (dgr l); omega)
  have hrd := hr
  have hg := hr.1
  have AP : Ap g w w := Ap.refl _ _
  have HT : Hid ((sgr (dgr (dgr l).tail).tail).length ≤ 1000000) := Lib.hid (by have h1 := sgr_le (dgr (dgr l).tail).tail; have h2 := tail_le (dgr (dgr l).tail); have h3 := dgr_le (dgr l).tail; have := HS.out; omega)
  have H1 := Lib.hid h1
  have H2 := Lib.hid h2
  have H3 := Lib.hid h3
  have HMM := Lib.hid hM
  clear hr hs h1 h2 h3 hM
  go_enter Tryz.func142, Tryz.ntmps142
  go_wp2_with fail
  refine (whole_list l g b _ hrd (by have := HS.out; omega)).mono ?_
  rintro e w1 ⟨rfl, hn, ap⟩
  replace AP := AP.trans ap
  replace hrd := hn
  clear ap
  go_wp2_with fail
  have h1 : Nat32 (w1.alloc (.cells #[.int .u32 1] 45)) (some ⟨w1.heap.size, 0, none⟩) 1 := nat1_new _ _
  replace AP := AP.alloc hg (.cells #[.int .u32 1] 45)
  replace hrd := hrd.alloc (.cells #[.int .u32 1] 45)
  generalize w1.heap.size = p at *
  generalize w1.alloc (.cells #[.int .u32 1] 45) = W at *
  refine (take_list 47 (dgr l) g _ _ hrd).mono ?_
  rintro e w2 ⟨rfl, hn, ap⟩
  replace h1 := ap.nat hrd h1
  replace AP := AP.trans ap
  replace hrd := hn
  clear ap
  rw [if_neg H2.out] at hrd
  rw [decide_eq_false H2.out]
  go_wp2_with fail
  refine (take_list 46 (dgr l) g _ _ hrd).mono ?_
  rintro e w3 ⟨rfl, hn, ap⟩
  replace h1 := ap.nat hrd h1
  replace AP := AP.trans ap
  replace hrd := hn
  clear ap
  rw [if_pos H1.out] at hrd
  rw [decide_eq_true H1.out]
  go_wp2_with fail
  refine (run_list (dgr l).tail g _ _ hrd (by have := HS.out; omega)).mono ?_
  rintro e w4 ⟨rfl, hn, ap⟩
  replace h1 := ap.nat hrd h1
  replace AP := AP.trans ap
  replace hrd := hn
  clear ap
  have z1 : ¬ (9223372036854775807 < (bs (dgs l)).size + (bs (dgs (dgr l).tail)).size) := by rw [bs_size, bs_size]; have := HS.out; omega
  go_wp2_with fail
  rw [bs_size]
  refine (ten_any (dgs (dgr l).tail).length _ (by have := HS.out; omega)).mono ?_
  rintro e w5 ⟨D, rfl, hD, hb⟩
  replace h1 := h1.to hb
  replace AP := AP.trans (Ap.of hb hrd.1)
  replace hrd := hrd.to hb
  clear hb
  rw [bs_app]
  clear z1
  go_wp2_with fail
  refine (natFrom_list (dgs l ++ dgs (dgr l).tail) _ (fun c hc => by rcases List.mem_append.1 hc with h | h <;> exact dgs_dgt _ h) (by rw [List.length_append]; have := HS.out; omega)).mono ?_
  rintro e w6 ⟨A, rfl, hA, hb⟩
  replace h1 := h1.to hb
  replace hD := hD.to hb
  replace AP := AP.trans (Ap.of hb hrd.1)
  replace hrd := hrd.to hb
  clear hb
  go_wp2_with fail
  refine (take_list 101 (dgr (dgr l).tail) g _ _ hrd).mono ?_
  rintro e w7 ⟨rfl, hn, ap⟩
  replace h1 := ap.nat hrd h1
  replace hD := ap.nat hrd hD
  replace hA := ap.nat hrd hA
  replace AP := AP.trans ap
  replace hrd := hn
  clear ap
  rw [if_pos H3.out] at hrd
  rw [decide_eq_true H3.out]
  go_wp2_with fail
  refine (take_list 45 (dgr (dgr l).tail).tail g _ _ hrd).mono ?_
  rintro e w8 ⟨rfl, hn, ap⟩
  replace h1 := ap.nat hrd h1
  replace hD := ap.nat hrd hD
  replace hA := ap.nat hrd hA
  replace AP := AP.trans ap
  replace hrd := hn
  clear ap
  have hrd0 := hrd
  replace hrd : Rd w8 g (bs (sgr (dgr (dgr l).tail).tail)) (wb b (dgs l) || (dgs (dgr l).tail).isEmpty) := hrd0
  clear hrd0
  obtain ⟨bl, hbl⟩ : ∃ bl, bl = decide ((dgr (dgr l).tail).tail.head? = some 45) := ⟨_, rfl⟩
  rw [← hbl]
  have HBL := Lib.hid hbl
  clear hbl
  go_wp2_with fail
  refine (whole_list (sgr (dgr (dgr l).tail).tail) g _ _ hrd (by have := HT.out; omega)).mono ?_
  rintro e w9 ⟨rfl, hn, ap⟩
  replace h1 := ap.nat hrd h1
  replace hD := ap.nat hrd hD
  replace hA := ap.nat hrd hA
  replace AP := AP.trans ap
  replace hrd := hn
  clear ap
  obtain ⟨ES, hES⟩ : ∃ ES, ES = (dgs (sgr (dgr (dgr l).tail).tail)) := ⟨_, rfl⟩
  obtain ⟨mk, hmk⟩ : ∃ mk, mk = wb (wb b (dgs l) || (dgs (dgr l).tail).isEmpty) ES := ⟨_, rfl⟩
  replace hrd : Rd w9 g (bs (dgr (sgr (dgr (dgr l).tail).tail))) mk := by rw [hmk, hES]; exact hrd
  obtain ⟨tt, htt⟩ : ∃ tt, tt = decide (mk = true ∨ 3 < ES.length ∨ (ES.length = 3 ∧ g400 ES = true)) := ⟨_, rfl⟩
  have HME : Hid (M = if tt = true then ((0, 1), true, dgr (sgr (dgr (dgr l).tail).tail)) else if bl = true then ((vd (dgs l ++ dgs (dgr l).tail), (10 ^ (dgs (dgr l).tail).length) * 10 ^ vd ES), false, dgr (sgr (dgr (dgr l).tail).tail)) else ((vd (dgs l ++ dgs (dgr l).tail) * 10 ^ vd ES, (10 ^ (dgs (dgr l).tail).length)), false, dgr (sgr (dgr (dgr l).tail).tail))) := Lib.hid (by
    rw [HMM.out, htt, HBL.out, hmk, hES]; unfold mgE; simp only [decide_eq_true_eq])
  rw [← hES]
  have HES := Lib.hid hES
  have HTT := Lib.hid htt
  have HDG : Hid (∀ c ∈ ES, dgt c = true) := Lib.hid (by rw [hES]; exact dgs_dgt)
  clear hES hmk htt HMM
  have q1 := hrd.2.2.1
  have q2 := hrd.2.2.2.2
  go_upto_region 12 with fail
  go_cut [59] (fun b wx => b = .bool tt ∧ wx = w9)
  case first =>
    cases mk with
    | true =>
      have e : tt = true := by rw [HTT.out]; exact decide_eq_true (.inl rfl)
      go_wp2_with fail; go_meet; exact ⟨by rw [e], rfl⟩
    | false =>
      by_cases c2 : 3 < ES.length
      · have e : tt = true := by rw [HTT.out]; exact decide_eq_true (.inr (.inl c2))
        have t1 : decide (3 < ((bs ES).size : Int)) = true := by rw [bs_size, decide_eq_true_eq]; omega
        clear c2
        go_wp2_with fail; go_meet; exact ⟨by rw [e], rfl⟩
      · have t1 : decide (3 < ((bs ES).size : Int)) = false := by rw [bs_size, decide_eq_false_iff_not]; omega
        by_cases c3 : ES.length = 3
        · have t2 : (((bs ES).size : Int) == 3) = true := by rw [bs_size, beq_iff_eq]; omega
          by_cases c4 : g400 ES = true
          · have e : tt = true := by rw [HTT.out]; exact decide_eq_true (.inr (.inr ⟨c3, c4⟩))
            have H7 : Op.bytesLess ES [52, 48, 48] = false ∧ ¬ ES = [52, 48, 48] := by unfold g400 at c4; simpa using c4
            have t3 : Op.bytesLess (bs ES).toList [52, 48, 48] = false := by rw [bs_toList]; exact H7.1
            have t6 : ¬ (bs ES).toList = [52, 48, 48] := by rw [bs_toList]; exact H7.2
            have t7 : ((bs ES).toList == [52, 48, 48]) = false := beq_eq_false_iff_ne.2 t6
            clear c2 c3 c4 H7
            go_wp2_with fail; go_meet; exact ⟨by rw [e], rfl⟩
          · have e : tt = false := by rw [HTT.out]; exact decide_eq_false (fun h => h.elim (by simp) (fun h => h.elim c2 (fun h => c4 h.2)))
            rcases g400_no c4 with h7 | ⟨h7, h8⟩
            · have t3 : Op.bytesLess (bs ES).toList [52, 48, 48] = true := by rw [bs_toList]; exact h7
              clear c2 c3 c4 h7
              go_wp2_with fail; go_meet; exact ⟨by rw [e], rfl⟩
            · have t3 : Op.bytesLess (bs ES).toList [52, 48, 48] = false := by rw [bs_toList]; exact h7
              have t6 : (bs ES).toList = [52, 48, 48] := by rw [bs_toList]; exact h8
              clear c2 c3 c4 h7 h8
              go_wp2_with fail; go_meet; exact ⟨by rw [e], rfl⟩
        · have t2 : (((bs ES).size : Int) == 3) = false := by rw [bs_size, beq_eq_false_iff_ne]; omega
          have e : tt = false := by rw [HTT.out]; exact decide_eq_false (fun h => h.elim (by simp) (fun h => h.elim c2 (fun h => c3 h.1)))
          clear c2 c3
          go_wp2_with fail; go_meet; exact ⟨by rw [e], rfl⟩
  case rest =>
  obtain ⟨hc1, hc2⟩ := hcut
  subst hc1
  rw [hc2]
  clear hc2 wc
  cases tt with
  | true =>
    have EM := Lib.hid (HME.out.trans (if_pos rfl))
    clear HES HDG
    go_wp2_with fail
    refine bodyPost_ret (v := .tuple #[.slice none 0 0, .slice (some ⟨w9.heap.size, 0, none⟩) 1 1]) (by simp [results, Tryz.results142, go_sem]) rfl ?_
    have hn1 := nat1_new (w9.setCell ⟨g, 1, none⟩ (.bool true)) 45
    rw [show (w9.setCell ⟨g, 1, none⟩ (.bool true)).heap.size = w9.heap.size by simp [World.setCell]] at hn1
    rw [EM.out]
    exact ⟨none, some ⟨w9.heap.size, 0, none⟩, by rw [ln_zero, ln_one], Nat32.zero _ _, hn1, (hrd.set1 (c := true)).alloc _, (AP.set (i := 1) (u := .bool true)).alloc hg _⟩
  | false =>
    have hn := of_decide_eq_false HTT.out.symm
    have hmk : mk = false := by cases mk with | false => rfl | true => exact absurd (.inl rfl) hn
    have H5 : Hid (ES.length ≤ 3) := Lib.hid (Nat.le_of_not_lt (fun h => hn (.inr (.inl h))))
    subst hmk
    replace HME := Lib.hid (HME.out.trans (if_neg (by simp)))
    have HE : Hid (ES.length ≤ 1099511627776) := Lib.hid (by have := H5.out; omega)
    have HV : Hid (vd ES < 1000) := Lib.hid (vd_three H5.out HDG.out)
    clear hn q2 HTT
    go_wp2_with fail
    clear q1
    refine (natFrom_list ES _ HDG.out HE.out).mono ?_
    rintro e w10 ⟨X, rfl, hX, hb⟩
    replace h1 := h1.to hb
    replace hD := hD.to hb
    replace hA := hA.to hb
    replace AP := AP.trans (Ap.of hb hrd.1)
    replace hrd := hrd.to hb
    clear hb
    obtain ⟨v, hv⟩ : ∃ v, v = vd ES := ⟨_, rfl⟩
    rw [← hv] at hX ⊢
    have HVV := Lib.hid hv
    replace HV : Hid (v < 1000) := Lib.hid (by rw [hv]; exact HV.out)
    clear hv HDG HE H5
    have lv : ln v ≤ 1 := ln_le (by have := HV.out; omega)
    have hX0 := hX.alloc (.cells #[.int .u32 0] 45)
    obtain ⟨i0, hi, hz0, hz1, hz2⟩ := info_parts Tryz.info_u32
    go_wp2_with (at_builtin; (refine wpList_append_grows _ rfl _ _ 26 rfl 45 i0 (.int .u32 0) 1 4 Tryz.und_nat hi hz0 hz1 hz2 rfl (by decide) X (ln v) (ln v) (wcs v) rfl (wcs_none hX0) (by rw [wcs_len, Nat.mul_one]) (wcs_cells hX0) ⟨w10.heap.size, 0, none⟩ 1 1 [.int .u32 0] rfl rfl (cell_one_new _ _ _) (by intro u hu; simp at hu; subst hu; rfl) (by omega) (by unfold maxLen; omega) (by omega) ?_; intro v1 w20 hown hgrow; obtain ⟨ga, ca, hv1, hga, hgl⟩ := hown.form (by omega); subst hv1; have cz := hown.cellAt 0 (by omega); rw [wcs_first (by have := HV.out; omega)] at cz))
    have hb : Below w10.heap.size w10 w20 := ((Below.refl _ _).alloc (Nat.le_refl _) _).grown hgrow (by simp) (fun k h => by cases h)
    clear hX0 hX cz hown hgrow hga hgl
    replace h1 := h1.to hb
    replace hD := hD.to hb
    replace hA := hA.to hb
    replace AP := AP.trans (Ap.of hb hrd.1)
    replace hrd := hrd.to hb
    clear hb
    rw [wrap_small (by have := HV.out; omega)]
    refine (ten_any v _ (by have := HV.out; omega)).mono ?_
    rintro e w21 ⟨U, rfl, hU, hb⟩
    replace h1 := h1.to hb
    replace hD := hD.to hb
    replace hA := hA.to hb
    replace AP := AP.trans (Ap.of hb hrd.1)
    replace hrd := hrd.to hb
    clear hb
    have LU : Hid (ln (10 ^ v) ≤ 1001) := Lib.hid (Nat.le_trans (ln_ten (Nat.pow_lt_pow_right (by omega) (show v < v + 1 by omega))) (by have := HV.out; omega))
    have LS : Hid (ln (vd (dgs l ++ dgs (dgr l).tail)) ≤ 2000000) := Lib.hid (Nat.le_trans (ln_ten (vd_all (fun c hc => by rcases List.mem_append.1 hc with h | h <;> exact dgs_dgt _ h))) (by have := HS.out; rw [List.length_append]; omega))
    have LD : Hid (ln (10 ^ (dgs (dgr l).tail).length) ≤ 1000001) := Lib.hid (Nat.le_trans (ln_ten (Nat.pow_lt_pow_right (by omega) (show (dgs (dgr l).tail).length < (dgs (dgr l).tail).length + 1 by omega))) (by have := HS.out; omega))
    rw [← HVV.out] at HME
    cases bl with
    | true =>
      have EM := Lib.hid (HME.out.trans (if_pos rfl))
      go_wp2_with fail
      refine (mul_any (10 ^ (dgs (dgr l).tail).length) (10 ^ v) D U _ (by exact hD) (by exact hU) (Nat.le_trans LD.out (by omega)) (Nat.le_trans LU.out (by omega))).mono ?_
      rintro e w22 ⟨P, rfl, hP, hb⟩
      replace h1 := h1.to hb
      replace hD := hD.to hb
      replace hA := hA.to hb
      replace hU := hU.to hb
      replace AP := AP.trans (Ap.of hb hrd.1)
      replace hrd := hrd.to hb
      clear hb
      go_wp2_with fail
      refine bodyPost_ret (v := .tuple #[.slice A (ln (vd (dgs l ++ dgs (dgr l).tail))) (ln (vd (dgs l ++ dgs (dgr l).tail))), .slice P (ln (10 ^ (dgs (dgr l).tail).length * 10 ^ v)) (ln (10 ^ (dgs (dgr l).tail).length * 10 ^ v))]) (by simp [results, Tryz.results142, go_sem]) rfl ?_
      rw [EM.out]
      exact ⟨A, P, rfl, hA, hP, hrd, AP⟩
    | false =>
      have EM := Lib.hid (HME.out.trans (if_neg (by simp)))
      go_wp2_with fail
      refine (mul_any (vd (dgs l ++ dgs (dgr l).tail)) (10 ^ v) A U _ (by exact hA) (by exact hU) (Nat.le_trans LS.out (by omega)) (Nat.le_trans LU.out (by omega))).mono ?_
      rintro e w22 ⟨P, rfl, hP, hb⟩
      replace h1 := h1.to hb
      replace hD := hD.to hb
      replace hA := hA.to hb
      replace hU := hU.to hb
      replace AP := AP.trans (Ap.of hb hrd.1)
      replace hrd := hrd.to hb
      clear hb
      go_wp2_with fail
      refine bodyPost_ret (v := .tuple #[.slice P (ln (vd (dgs l ++ dgs (dgr l).tail) * 10 ^ v)) (ln (vd (dgs l ++ dgs (dgr l).tail) * 10 ^ v)), .slice D (ln (10 ^ (dgs (dgr l).tail).length)) (ln (10 ^ (dgs (dgr l).tail).length))]) (by simp [results, Tryz.results142, go_sem]) rfl ?_
      rw [EM.out]
      exact ⟨P, D, rfl, hP, hD, hrd, AP⟩

end Go.Proofs.YtgpmlhpgdalheaaGreat

namespace Go.Proofs.YtgpmlhpgdalheaaGreat
open Go.RowKit Pl
set_option linter.unusedVariables false
set_option linter.unusedSimpArgs false

/-- 'magnitude' of the bytes l, b being the mark ahead of it. -/
def mgP (b : Bool) (l : List UInt8) : (Nat × Nat) × Bool × List UInt8 :=
  if (dgr l).head? = some 47 then ((vd (dgs l), vd (dgs (dgr l).tail)), wb (wb b (dgs l)) (dgs (dgr l).tail), dgr (dgr l).tail)
  else if (dgr l).head? = some 46 then
    (if (dgr (dgr l).tail).head? = some 101 then mgE (dgs l ++ dgs (dgr l).tail) (10 ^ (dgs (dgr l).tail).length) (wb b (dgs l) || (dgs (dgr l).tail).isEmpty) (dgr (dgr l).tail)
     else ((vd (dgs l ++ dgs (dgr l).tail), 10 ^ (dgs (dgr l).tail).length), (wb b (dgs l) || (dgs (dgr l).tail).isEmpty), dgr (dgr l).tail))
  else if (dgr l).head? = some 101 then mgE (dgs l) 1 (wb b (dgs l)) (dgr l)
  else ((vd (dgs l), 1), wb b (dgs l), dgr l)
/-- 'magnitude'. -/
theorem mag_all (l : List UInt8) (g : Nat) (b : Bool) (w : World) (hr : Rd w g (bs l) b) (hs : l.length ≤ 1000000) :
    Calls Tryz.prog 142 #[.pointer (some ⟨g, 0, none⟩)] w (RetMagG g (mgP b l).2.2 (mgP b l).2.1 (mgP b l).1.1 (mgP b l).1.2 w) := by
  unfold mgP
  by_cases h1 : (dgr l).head? = some 47
  · rw [if_pos h1]; exact mag_slash l g b w hr hs h1
  · rw [if_neg h1]
    by_cases h2 : (dgr l).head? = some 46
    · rw [if_pos h2]
      by_cases h3 : (dgr (dgr l).tail).head? = some 101
      · rw [if_pos h3]; exact mag_ep l g b w hr hs h2 h1 h3 _ rfl
      · rw [if_neg h3]; exact mag_point l g b w hr hs h2 h3
    · rw [if_neg h2]
      by_cases h3 : (dgr l).head? = some 101
      · rw [if_pos h3]; exact mag_en l g b w hr hs h2 h1 h3 _ rfl
      · rw [if_neg h3]; exact mag_plain l g b w hr hs h1 h2 h3
end Go.Proofs.YtgpmlhpgdalheaaGreat

namespace Go.Proofs.YtgpmlhpgdalheaaGreat
open Go.RowKit Pl
set_option linter.unusedVariables false
set_option linter.unusedSimpArgs false

/-- What 'Parse' computes: the error's code and the number. -/
def parseP (l : List UInt8) : Int × Cx :=
  if 4096 < l.length then (4, Cx.zero)
  else
    let m := mgP false (sgr l)
    let z := zi (decide (l.head? = some 45)) m.1.1
    if m.2.2.head? = some 105 then
      (if m.2.1 = true ∨ m.2.2.tail ≠ [] then (2, Cx.zero) else if m.1.2 = 0 then (3, Cx.zero) else (0, fr 0 z m.1.2))
    else if m.2.2 = [] then
      (if m.2.1 = true then (2, Cx.zero) else if m.1.2 = 0 then (3, Cx.zero) else (0, fr z 0 m.1.2))
    else if m.2.2.head? = some 45 ∨ m.2.2.head? = some 43 then
      (let k := mgP m.2.1 m.2.2.tail
       let y := zi (decide (m.2.2.head? = some 45)) k.1.1
       if k.2.2.head? ≠ some 105 ∨ k.2.1 = true ∨ k.2.2.tail ≠ [] then (2, Cx.zero)
       else if m.1.2 = 0 ∨ k.1.2 = 0 then (3, Cx.zero)
       else (0, fr (z * (k.1.2 : Int)) (y * (m.1.2 : Int)) (m.1.2 * k.1.2)))
    else (2, Cx.zero)

theorem mgE_len (S : List UInt8) (D : Nat) (b : Bool) (r : List UInt8) : (mgE S D b r).2.2.length ≤ r.length := by
  have h : (dgr (sgr r.tail)).length ≤ r.length := by
    have h1 := dgr_le (sgr r.tail); have h2 := sgr_le r.tail; have h3 := tail_le r; omega
  unfold mgE
  split
  · exact h
  · split <;> exact h
theorem mgP_len (b : Bool) (l : List UInt8) : (mgP b l).2.2.length ≤ l.length := by
  have h1 := dgr_le l
  have h2 := tail_le (dgr l)
  have h3 := dgr_le (dgr l).tail
  unfold mgP
  split
  · show (dgr (dgr l).tail).length ≤ _; omega
  · split
    · split
      · exact Nat.le_trans (mgE_len _ _ _ _) (by omega)
      · show (dgr (dgr l).tail).length ≤ _; omega
    · split
      · exact Nat.le_trans (mgE_len _ _ _ _) h1
      · exact h1
theorem ln_pow10 (k : Nat) : ln (10 ^ k) ≤ k + 1 := ln_ten (Nat.pow_lt_pow_right (by omega) (by omega))
theorem ln_vd {s : List UInt8} (hd : ∀ c ∈ s, dgt c = true) : ln (vd s) ≤ s.length := ln_ten (vd_all hd)
theorem dgs_app {a b : List UInt8} : ∀ c ∈ dgs a ++ dgs b, dgt c = true := fun c hc => by
  rcases List.mem_append.1 hc with h | h <;> exact dgs_dgt _ h
theorem mgE_ln {S : List UInt8} {D K : Nat} {b : Bool} {r : List UInt8} (hS : ∀ c ∈ S, dgt c = true) (hl : S.length ≤ K) (hD : ln D ≤ K) (hK : 1 ≤ K) : ln (mgE S D b r).1.1 ≤ K + 1000 ∧ ln (mgE S D b r).1.2 ≤ K + 1000 := by
  have hs := ln_vd hS
  unfold mgE
  split
  · exact ⟨by show ln 0 ≤ _; rw [ln_zero]; omega, by show ln 1 ≤ _; rw [ln_one]; omega⟩
  · rename_i h
    have h3 : (dgs (sgr r.tail)).length ≤ 3 := by
      rcases Nat.lt_or_ge 3 (dgs (sgr r.tail)).length with h4 | h4
      · exact absurd (.inr (.inl h4)) h
      · exact h4
    have hv := vd_three h3 dgs_dgt
    have hp := ln_pow10 (vd (dgs (sgr r.tail)))
    split
    · exact ⟨by show ln (vd S) ≤ _; omega, Nat.le_trans (nat_mul_ln hD hp) (by omega)⟩
    · exact ⟨Nat.le_trans (nat_mul_ln hs hp) (by omega), by show ln D ≤ _; omega⟩
theorem mgP_ln {b : Bool} {l : List UInt8} {K : Nat} (h : l.length + 2 ≤ K) : ln (mgP b l).1.1 ≤ K + 1000 ∧ ln (mgP b l).1.2 ≤ K + 1000 := by
  have h1 := dgr_le l
  have h2 := tail_le (dgr l)
  have h3 := dgs_le (dgr l).tail
  have h4 := dgs_le l
  have e := congrArg List.length (dgs_dgr l)
  rw [List.length_append] at e
  have v1 := ln_vd (dgs_dgt (l := l))
  have v2 := ln_vd (dgs_dgt (l := (dgr l).tail))
  have v3 : ln (vd (dgs l ++ dgs (dgr l).tail)) ≤ (dgs l ++ dgs (dgr l).tail).length := ln_vd dgs_app
  have v4 := ln_pow10 (dgs (dgr l).tail).length
  rw [List.length_append] at v3
  unfold mgP
  split
  · exact ⟨by show ln (vd (dgs l)) ≤ _; omega, by show ln (vd (dgs (dgr l).tail)) ≤ _; omega⟩
  · split
    · split
      · exact mgE_ln dgs_app (by rw [List.length_append]; omega) (by omega) (by omega)
      · exact ⟨by show ln (vd (dgs l ++ dgs (dgr l).tail)) ≤ _; omega, by show ln (10 ^ (dgs (dgr l).tail).length) ≤ _; omega⟩
    · split
      · exact mgE_ln dgs_dgt (by omega) (by rw [ln_one]; omega) (by omega)
      · exact ⟨by show ln (vd (dgs l)) ≤ _; omega, by show ln 1 ≤ _; rw [ln_one]; omega⟩
end Go.Proofs.YtgpmlhpgdalheaaGreat
