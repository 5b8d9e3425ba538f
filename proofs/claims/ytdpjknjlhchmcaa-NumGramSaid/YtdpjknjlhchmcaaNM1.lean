/- Part 1 of the proof. -/
import Derived.Test.YtdpjknjlhchmcaaProg
import Derived.WalkKit
import Derived.Deep.OwnRows
import Derived.Deep.Draws
import Derived.Deep.QuietTactic
import Derived.BigQuiet
import Derived.RegionTactic
import Derived.Deep.RegionWith
import Derived.Deep.RegionHeld3
import Derived.Lib.Hide
import Derived.KernelRfl
import Derived.Test.YtdpjknjlhchmcaaShelf
import Derived.Laws.CopyOwn
import Derived.Lib.ItoaNum
import Derived.Deep.DeepCutAuto
import Derived.Deep.CutBlock
import Derived.Deep.LoopGhost
namespace Go.Proofs.Ytdpjknjlhchmcaa
namespace Pl
/-- The value of a list of words. -/
def nv : List Nat → Nat
  | [] => 0
  | d :: l => d + 4294967296 * nv l
def Ok (l : List Nat) : Prop := ∀ d ∈ l, d < 4294967296
theorem Ok.nil : Ok [] := by intro d h; cases h
theorem Ok.cons {d : Nat} {l : List Nat} (h : d < 4294967296) (k : Ok l) : Ok (d :: l) := by
  intro e he
  rcases List.mem_cons.1 he with rfl | he
  · exact h
  · exact k e he
theorem Ok.head {d : Nat} {l : List Nat} (h : Ok (d :: l)) : d < 4294967296 := h d (by simp)
theorem Ok.tail {d : Nat} {l : List Nat} (h : Ok (d :: l)) : Ok l := fun e he => h e (by simp [he])
theorem Ok.append {a b : List Nat} (h : Ok a) (k : Ok b) : Ok (a ++ b) := by
  intro d hd
  rcases List.mem_append.1 hd with hd | hd
  · exact h d hd
  · exact k d hd
theorem Ok.take {l : List Nat} (h : Ok l) (n : Nat) : Ok (l.take n) := fun d hd => h d (List.mem_of_mem_take hd)
theorem Ok.drop {l : List Nat} (h : Ok l) (n : Nat) : Ok (l.drop n) := fun d hd => h d (List.mem_of_mem_drop hd)
theorem Ok.replicate (n : Nat) : Ok (List.replicate n 0) := by
  intro d hd
  have := List.eq_of_mem_replicate hd
  omega
theorem Ok.getD {l : List Nat} (h : Ok l) (i : Nat) : l.getD i 0 < 4294967296 := by
  by_cases hi : i < l.length
  · have : l.getD i 0 = l[i] := by simp [List.getD, hi]
    rw [this]; exact h _ (List.getElem_mem hi)
  · have : l.getD i 0 = 0 := by rw [List.getD_eq_getElem?_getD, List.getElem?_eq_none (by omega)]; rfl
    rw [this]; omega
theorem Ok.set {l : List Nat} (h : Ok l) (i : Nat) {v : Nat} (hv : v < 4294967296) : Ok (l.set i v) := by
  intro d hd
  rcases List.mem_or_eq_of_mem_set hd with hd | rfl
  · exact h d hd
  · exact hv
theorem pow_pos' (k : Nat) : 0 < 4294967296 ^ k := Nat.pow_pos (by omega)
theorem nv_append (a b : List Nat) : nv (a ++ b) = nv a + 4294967296 ^ a.length * nv b := by
  induction a with
  | nil => simp [nv]
  | cons d a ih =>
    simp only [List.cons_append, nv, ih, List.length_cons, Nat.pow_succ, Nat.mul_add]
    rw [Nat.mul_comm (4294967296 ^ a.length) 4294967296, Nat.mul_assoc]
    omega
theorem nv_lt {l : List Nat} (h : Ok l) : nv l < 4294967296 ^ l.length := by
  induction l with
  | nil => simp [nv]
  | cons d l ih =>
    have h1 := h.head
    have h2 := ih h.tail
    simp only [nv, List.length_cons, Nat.pow_succ]
    omega
theorem nv_split (l : List Nat) (i : Nat) (h : i ≤ l.length) : nv l = nv (l.take i) + 4294967296 ^ i * nv (l.drop i) := by
  have e := nv_append (l.take i) (l.drop i)
  rw [List.take_append_drop] at e
  have : (l.take i).length = i := by simp; omega
  rw [this] at e
  exact e
theorem nv_drop_succ (l : List Nat) (i : Nat) (h : i < l.length) : nv (l.drop i) = l.getD i 0 + 4294967296 * nv (l.drop (i + 1)) := by
  rw [List.drop_eq_getElem_cons h]
  simp [nv, List.getD, h]
/-- No zero at the end. -/
def Nm (l : List Nat) : Prop := Ok l ∧ (l ≠ [] → l.getD (l.length - 1) 0 ≠ 0)
theorem Nm.nil : Nm [] := ⟨Ok.nil, fun h => absurd rfl h⟩
theorem nv_ge {l : List Nat} (h : Nm l) (hn : l ≠ []) : 4294967296 ^ (l.length - 1) ≤ nv l := by
  have hp : 0 < l.length := List.length_pos_iff.2 hn
  have h1 := nv_split l (l.length - 1) (by omega)
  have h2 := nv_drop_succ l (l.length - 1) (by omega)
  have h3 := h.2 hn
  have h5 : 1 ≤ nv (l.drop (l.length - 1)) := by omega
  have h6 := Nat.mul_le_mul_left (4294967296 ^ (l.length - 1)) h5
  omega
theorem eq_of_nv {a b : List Nat} (ha : Ok a) (hb : Ok b) (hl : a.length = b.length) (h : nv a = nv b) : a = b := by
  induction a generalizing b with
  | nil => cases b with
    | nil => rfl
    | cons e b => simp at hl
  | cons d a ih => cases b with
    | nil => simp at hl
    | cons e b =>
      have h1 := ha.head
      have h2 := hb.head
      simp only [nv] at h
      have h3 : d = e := by omega
      have h4 : nv a = nv b := by omega
      rw [h3, ih ha.tail hb.tail (by simpa using hl) h4]
theorem len_le_of_nv {a b : List Nat} (ha : Nm a) (hb : Ok b) (h : nv a ≤ nv b) : a.length ≤ b.length := by
  by_cases hn : a = []
  · simp [hn]
  · have h1 := nv_ge ha hn
    have h2 := nv_lt hb
    have h3 : 4294967296 ^ (a.length - 1) < 4294967296 ^ b.length := by omega
    have h4 := (Nat.pow_lt_pow_iff_right (show 1 < 4294967296 by omega)).1 h3
    omega
theorem Nm.inj {a b : List Nat} (ha : Nm a) (hb : Nm b) (h : nv a = nv b) : a = b :=
  eq_of_nv ha.1 hb.1 (Nat.le_antisymm (len_le_of_nv ha hb.1 (by omega)) (len_le_of_nv hb ha.1 (by omega))) h
/-- The words of a number. -/
def dg (n : Nat) : List Nat := if n = 0 then [] else n % 4294967296 :: dg (n / 4294967296)
termination_by n
decreasing_by omega
theorem dg_zero : dg 0 = [] := by rw [dg]; rfl
theorem dg_pos {n : Nat} (h : n ≠ 0) : dg n = n % 4294967296 :: dg (n / 4294967296) := by rw [dg, if_neg h]
theorem nv_dg (n : Nat) : nv (dg n) = n := by
  induction n using Nat.strongRecOn with
  | ind n ih =>
    by_cases h : n = 0
    · subst h; rw [dg_zero]; rfl
    · rw [dg_pos h, nv, ih (n / 4294967296) (by omega)]; omega
theorem dg_ne {n : Nat} (h : n ≠ 0) : dg n ≠ [] := by rw [dg_pos h]; simp
theorem dg_Nm (n : Nat) : Nm (dg n) := by
  induction n using Nat.strongRecOn with
  | ind n ih =>
    by_cases h : n = 0
    · subst h; rw [dg_zero]; exact Nm.nil
    · have hi := ih (n / 4294967296) (by omega)
      rw [dg_pos h]
      refine ⟨Ok.cons (by omega) hi.1, fun _ => ?_⟩
      by_cases h2 : n / 4294967296 = 0
      · rw [h2, dg_zero]; simp; omega
      · have h3 := hi.2 (dg_ne h2)
        have h4 : 0 < (dg (n / 4294967296)).length := List.length_pos_iff.2 (dg_ne h2)
        have h5 : (n % 4294967296 :: dg (n / 4294967296)).length - 1 = ((dg (n / 4294967296)).length - 1) + 1 := by simp; omega
        rw [h5, List.getD_cons_succ]; exact h3
theorem dg_Ok (n : Nat) : Ok (dg n) := (dg_Nm n).1
/-- The number of words. -/
def ln (n : Nat) : Nat := (dg n).length
theorem ln_zero : ln 0 = 0 := by rw [ln, dg_zero]; rfl
theorem ln_pos {n : Nat} (h : n ≠ 0) : 0 < ln n := List.length_pos_iff.2 (dg_ne h)
theorem lt_ln (n : Nat) : n < 4294967296 ^ ln n := by have := nv_lt (dg_Ok n); rwa [nv_dg] at this
theorem ln_ge {n : Nat} (h : n ≠ 0) : 4294967296 ^ (ln n - 1) ≤ n := by have := nv_ge (dg_Nm n) (dg_ne h); rwa [nv_dg] at this
theorem ln_le {n k : Nat} (h : n < 4294967296 ^ k) : ln n ≤ k := by
  by_cases hn : n = 0
  · rw [hn, ln_zero]; omega
  · have h1 := ln_ge hn
    have h2 := (Nat.pow_lt_pow_iff_right (show 1 < 4294967296 by omega)).1 (Nat.lt_of_le_of_lt h1 h)
    omega
theorem ln_mono {a b : Nat} (h : a ≤ b) : ln a ≤ ln b := ln_le (Nat.lt_of_le_of_lt h (lt_ln b))
theorem ln_add (a b : Nat) : ln (a + b) ≤ max (ln a) (ln b) + 1 := by
  apply ln_le
  have h1 : a < 4294967296 ^ max (ln a) (ln b) := Nat.lt_of_lt_of_le (lt_ln a) (Nat.pow_le_pow_right (by omega) (Nat.le_max_left _ _))
  have h2 : b < 4294967296 ^ max (ln a) (ln b) := Nat.lt_of_lt_of_le (lt_ln b) (Nat.pow_le_pow_right (by omega) (Nat.le_max_right _ _))
  rw [Nat.pow_succ]; omega
theorem ln_mul (a b : Nat) : ln (a * b) ≤ ln a + ln b := by
  apply ln_le
  rw [Nat.pow_add]
  have h1 := lt_ln a
  have h2 := lt_ln b
  exact Nat.mul_lt_mul'' h1 h2
theorem ln_one : ln 1 = 1 := by
  have h1 : ln 1 ≤ 1 := ln_le (by omega)
  have h2 := ln_pos (show (1 : Nat) ≠ 0 by omega)
  omega
theorem lt_of_ln_lt {a b : Nat} (h : ln a < ln b) : a < b := by
  by_cases hb : a < b
  · exact hb
  · have := ln_mono (show b ≤ a by omega); omega
end Pl
end Go.Proofs.Ytdpjknjlhchmcaa

namespace Go.Proofs.Ytdpjknjlhchmcaa
namespace Pl
/-- The word number j. -/
def wd (n j : Nat) : Nat := n / 4294967296 ^ j % 4294967296
theorem wd_lt (n j : Nat) : wd n j < 4294967296 := Nat.mod_lt _ (by omega)
theorem wd_zero (j : Nat) : wd 0 j = 0 := by simp [wd]
theorem wd_0 (n : Nat) : wd n 0 = n % 4294967296 := by simp [wd]
theorem wd_1 (n : Nat) : wd n 1 = n / 4294967296 % 4294967296 := by simp [wd]
theorem mod_succ (n j : Nat) : n % 4294967296 ^ (j + 1) = n % 4294967296 ^ j + 4294967296 ^ j * wd n j := by
  rw [Nat.pow_succ, Nat.mod_mul]; rfl
theorem wd_top {n j : Nat} (h : n < 4294967296 ^ j) {k : Nat} (hk : j ≤ k) : wd n k = 0 := by
  have h2 : n < 4294967296 ^ k := Nat.lt_of_lt_of_le h (Nat.pow_le_pow_right (by omega) hk)
  rw [wd, Nat.div_eq_of_lt h2]
theorem wd_high {n k : Nat} (hk : ln n ≤ k) : wd n k = 0 := wd_top (lt_ln n) hk
theorem wd_div (n i j : Nat) : wd (n / 4294967296 ^ i) j = wd n (i + j) := by
  rw [wd, wd, Nat.div_div_eq_div_mul, ← Nat.pow_add]
theorem wd_last {n : Nat} (h : n ≠ 0) : wd n (ln n - 1) ≠ 0 := by
  have h1 := ln_ge h
  have h2 := lt_ln n
  have h3 := ln_pos h
  have h4 : ln n = ln n - 1 + 1 := by omega
  rw [h4, Nat.pow_succ] at h2
  have h5 : 0 < n / 4294967296 ^ (ln n - 1) := Nat.div_pos h1 (pow_pos' _)
  have h6 : n / 4294967296 ^ (ln n - 1) < 4294967296 := (Nat.div_lt_iff_lt_mul (pow_pos' _)).2 (by rw [Nat.mul_comm]; exact h2)
  rw [wd, Nat.mod_eq_of_lt h6]; omega
theorem ln_of_lt {n k : Nat} (h : n < 4294967296 ^ k) (h2 : k = 0 ∨ wd n (k - 1) ≠ 0) : ln n = k := by
  have h3 := ln_le h
  rcases h2 with rfl | h2
  · omega
  · rcases Nat.lt_or_ge (ln n) k with h4 | h4
    · exact absurd (wd_high (show ln n ≤ k - 1 by omega)) h2
    · omega
theorem ln_gt {n k : Nat} (h : 4294967296 ^ k ≤ n) : k < ln n := by
  have h2 := lt_ln n
  exact (Nat.pow_lt_pow_iff_right (show 1 < 4294967296 by omega)).1 (Nat.lt_of_le_of_lt h h2)
theorem lt_of_ln {n k : Nat} (h : ln n ≤ k) : n < 4294967296 ^ k := Nat.lt_of_lt_of_le (lt_ln n) (Nat.pow_le_pow_right (by omega) h)
section
variable {X Y p : Nat}
theorem add_word (hp : 0 < p) : (X / p % 4294967296 + Y / p % 4294967296 + (X % p + Y % p) / p) % 4294967296 = (X + Y) / p % 4294967296 := by
  have h1 : X + Y = p * (X / p + Y / p) + (X % p + Y % p) := by
    have := Nat.div_add_mod X p; have := Nat.div_add_mod Y p; rw [Nat.mul_add]; omega
  have h2 : (X + Y) / p = X / p + Y / p + (X % p + Y % p) / p := by
    conv => lhs; rw [h1]
    rw [Nat.mul_add_div hp]
  rw [h2]; omega
theorem add_carry (hp : 0 < p) : (X / p % 4294967296 + Y / p % 4294967296 + (X % p + Y % p) / p) / 4294967296 = (X % (p * 4294967296) + Y % (p * 4294967296)) / (p * 4294967296) := by
  rw [← Nat.div_div_eq_div_mul, Nat.mod_mul, Nat.mod_mul]
  have h : X % p + p * (X / p % 4294967296) + (Y % p + p * (Y / p % 4294967296)) = p * (X / p % 4294967296 + Y / p % 4294967296) + (X % p + Y % p) := by rw [Nat.mul_add]; omega
  rw [h, Nat.mul_add_div hp]
theorem carry_le (hp : 0 < p) : (X % p + Y % p) / p ≤ 1 := by
  have h1 := Nat.mod_lt X hp
  have h2 := Nat.mod_lt Y hp
  have : (X % p + Y % p) / p < 2 := (Nat.div_lt_iff_lt_mul hp).2 (by omega)
  omega
/-- The borrow out of the words below p. -/
def bor (X Y p : Nat) : Nat := if X % p < Y % p then 1 else 0
theorem bor_le : bor X Y p ≤ 1 := by unfold bor; split <;> omega
theorem sub_carry (hp : 0 < p) : bor X Y (p * 4294967296) = if X / p % 4294967296 < Y / p % 4294967296 + bor X Y p then 1 else 0 := by
  unfold bor
  rw [Nat.mod_mul, Nat.mod_mul]
  have h1 := Nat.mod_lt X hp
  have h2 := Nat.mod_lt Y hp
  generalize X / p % 4294967296 = a
  generalize Y / p % 4294967296 = b
  rcases Nat.lt_trichotomy a b with h | h | h
  · have h3 : p * (a + 1) ≤ p * b := Nat.mul_le_mul_left p h
    rw [Nat.mul_add] at h3
    rw [if_pos (by omega), if_pos (by omega)]
  · subst h
    by_cases h4 : X % p < Y % p
    · rw [if_pos (by omega), if_pos (by simp [h4])]
    · rw [if_neg (by omega), if_neg (by simp [h4])]
  · have h3 : p * (b + 1) ≤ p * a := Nat.mul_le_mul_left p h
    rw [Nat.mul_add] at h3
    rw [if_neg (by omega)]
    split <;> rw [if_neg (by omega)]
/-- One word of X + p B M - Y. -/
theorem sub_word (hp : 0 < p) (M : Nat) (h : Y ≤ X + p * 4294967296 * M) :
    (X / p % 4294967296 + 8589934592 - Y / p % 4294967296 - bor X Y p) % 4294967296 = (X + p * 4294967296 * M - Y) / p % 4294967296 := by
  have hx := Nat.div_add_mod X p
  have hy := Nat.div_add_mod Y p
  have h1 := Nat.mod_lt X hp
  have h2 := Nat.mod_lt Y hp
  have hb : Y / p + bor X Y p ≤ X / p + 4294967296 * M := by
    unfold bor
    have e : p * 4294967296 * M = p * (4294967296 * M) := Nat.mul_assoc _ _ _
    rcases Nat.lt_or_ge (X / p + 4294967296 * M) (Y / p) with h3 | h3
    · have h4 : p * (X / p + 4294967296 * M + 1) ≤ p * (Y / p) := Nat.mul_le_mul_left p h3
      rw [Nat.mul_add, Nat.mul_add] at h4
      omega
    · split
      · rcases Nat.lt_or_ge (Y / p) (X / p + 4294967296 * M) with h5 | h5
        · omega
        · have h6 : Y / p = X / p + 4294967296 * M := by omega
          rw [h6, Nat.mul_add] at hy
          omega
      · omega
  have h3 : X + p * 4294967296 * M - Y = p * (X / p + 4294967296 * M - Y / p - bor X Y p) + (X % p + p * bor X Y p - Y % p) := by
    rw [Nat.mul_sub, Nat.mul_sub, Nat.mul_add, ← Nat.mul_assoc]
    unfold bor at hb ⊢
    split
    · rename_i hlt
      rw [if_pos hlt] at hb
      have h6 : p * (Y / p + 1) ≤ p * (X / p + 4294967296 * M) := Nat.mul_le_mul_left p hb
      rw [Nat.mul_add, Nat.mul_add, ← Nat.mul_assoc] at h6
      omega
    · rename_i hlt
      rw [if_neg hlt] at hb
      have h6 : p * (Y / p + 0) ≤ p * (X / p + 4294967296 * M) := Nat.mul_le_mul_left p hb
      rw [Nat.mul_add, Nat.mul_add, ← Nat.mul_assoc] at h6
      omega
  have h4 : X % p + p * bor X Y p - Y % p < p := by
    unfold bor
    split <;> omega
  rw [h3, Nat.mul_add_div hp, Nat.div_eq_of_lt h4]
  have h5 : bor X Y p ≤ 1 := bor_le
  omega
end
/-- The words of a sum. -/
theorem wd_add_high (a b i j : Nat) (h : j < i) : wd (a + 4294967296 ^ i * b) j = wd a j := by
  have h3 : 4294967296 ^ i = 4294967296 ^ j * (4294967296 * 4294967296 ^ (i - j - 1)) := by
    rw [Nat.mul_comm 4294967296 (4294967296 ^ (i - j - 1)), ← Nat.pow_succ, ← Nat.pow_add]; congr 1; omega
  rw [wd, wd, h3, Nat.mul_assoc, Nat.add_mul_div_left _ _ (pow_pos' _), Nat.mul_assoc, Nat.add_mul_mod_self_left]
theorem wd_add_at (a b i : Nat) : wd (a + 4294967296 ^ i * b) i = (a / 4294967296 ^ i + b) % 4294967296 := by
  rw [wd, Nat.add_mul_div_left _ _ (pow_pos' _)]
/-- The rounds of a multiplication: what stands after k words of Y by the word a, at the place i, over P. -/
def mt (P Y a i k : Nat) : Nat := P % 4294967296 ^ (i + k) + 4294967296 ^ i * a * (Y % 4294967296 ^ k)
theorem mt_succ (P Y a i k : Nat) : mt P Y a i (k + 1) = mt P Y a i k + 4294967296 ^ (i + k) * (wd P (i + k) + a * wd Y k) := by
  unfold mt
  rw [← Nat.add_assoc, mod_succ, mod_succ, Nat.mul_add (4294967296 ^ (i + k)), Nat.mul_add (4294967296 ^ i * a), Nat.pow_add]
  have : 4294967296 ^ i * a * (4294967296 ^ k * wd Y k) = 4294967296 ^ i * 4294967296 ^ k * (a * wd Y k) := by
    simp only [Nat.mul_assoc, Nat.mul_left_comm]
  omega
theorem mt_lt {a : Nat} (ha : a < 4294967296) (P Y i k : Nat) : mt P Y a i k < 4294967296 ^ (i + k) * 4294967296 := by
  unfold mt
  have h1 := Nat.mod_lt P (pow_pos' (i + k))
  have h2 := Nat.mod_lt Y (pow_pos' k)
  have h3 : 4294967296 ^ i * a * (Y % 4294967296 ^ k) ≤ 4294967296 ^ i * 4294967295 * 4294967296 ^ k := Nat.mul_le_mul (Nat.mul_le_mul_left _ (by omega)) (by omega)
  have h4 : 4294967296 ^ i * 4294967295 * 4294967296 ^ k = 4294967296 ^ (i + k) * 4294967295 := by
    rw [Nat.pow_add]; simp only [Nat.mul_assoc, Nat.mul_comm]
  have h5 : 4294967296 ^ (i + k) * 4294967296 = 4294967296 ^ (i + k) * 4294967295 + 4294967296 ^ (i + k) := by
    rw [show (4294967296 : Nat) = 4294967295 + 1 by rfl, Nat.mul_add, Nat.mul_one]
  omega
/-- What a round of a multiplication carries. -/
def mc (P Y a i k : Nat) : Nat := mt P Y a i k / 4294967296 ^ (i + k)
theorem mc_zero (P Y a i : Nat) : mc P Y a i 0 = 0 := by
  unfold mc mt
  have h1 := Nat.mod_lt P (pow_pos' (i + 0))
  rw [Nat.div_eq_of_lt]
  simp [Nat.mod_one] at *
  exact h1
theorem mc_lt {a : Nat} (ha : a < 4294967296) (P Y i k : Nat) : mc P Y a i k < 4294967296 :=
  (Nat.div_lt_iff_lt_mul (pow_pos' _)).2 (by rw [Nat.mul_comm]; exact mt_lt ha P Y i k)
theorem mt_word (P Y a i k : Nat) : wd (mt P Y a i (k + 1)) (i + k) = (mc P Y a i k + (a * wd Y k + wd P (i + k))) % 4294967296 := by
  rw [mt_succ, wd_add_at, mc]; congr 1; omega
theorem mt_carry (P Y a i k : Nat) : mc P Y a i (k + 1) = (mc P Y a i k + (a * wd Y k + wd P (i + k))) / 4294967296 := by
  rw [mc, mc, mt_succ, ← Nat.add_assoc, Nat.pow_succ, ← Nat.div_div_eq_div_mul, Nat.add_mul_div_left _ _ (pow_pos' _)]
  congr 1; omega
theorem mt_low (P Y a i k j : Nat) (h : j < i + k) : wd (mt P Y a i (k + 1)) j = wd (mt P Y a i k) j := by
  rw [mt_succ, wd_add_high _ _ _ _ h]
theorem mt_zero_low (P Y a i j : Nat) (h : j < i) : wd (mt P Y a i 0) j = wd P j := by
  unfold mt
  rw [Nat.pow_zero, Nat.mod_one, Nat.mul_zero, Nat.add_zero, Nat.add_zero]
  conv => rhs; rw [← Nat.mod_add_div P (4294967296 ^ i)]
  rw [wd_add_high _ _ _ _ h]
theorem mt_end {P Y a i l : Nat} (hP : P < 4294967296 ^ (i + l)) (hY : Y < 4294967296 ^ l) : mt P Y a i l = P + 4294967296 ^ i * a * Y := by
  rw [mt, Nat.mod_eq_of_lt hP, Nat.mod_eq_of_lt hY]
theorem mul_round (X Y i : Nat) : X % 4294967296 ^ i * Y + 4294967296 ^ i * wd X i * Y = X % 4294967296 ^ (i + 1) * Y := by
  rw [mod_succ, Nat.add_mul]
theorem mul_part_lt (X Y i : Nat) : X % 4294967296 ^ i * Y < 4294967296 ^ (i + ln Y) := by
  rw [Nat.pow_add]
  have h1 := Nat.mod_lt X (pow_pos' i)
  have h2 := lt_ln Y
  exact Nat.mul_lt_mul'' h1 h2
theorem lin_top {n j : Nat} (h : n < 4294967296 ^ (j + 1)) : wd n j = n / 4294967296 ^ j := by
  rw [wd, Nat.mod_eq_of_lt]
  rw [Nat.pow_succ] at h
  exact (Nat.div_lt_iff_lt_mul (pow_pos' _)).2 (by rw [Nat.mul_comm]; exact h)
/-- One word of a shift to the right. -/
theorem shr_word (X w r i : Nat) (hr : r < 32) : wd (X / 2 ^ (32 * w + r)) i = (wd X (i + w) + 4294967296 * wd X (i + w + 1)) / 2 ^ r % 4294967296 := by
  have e : 2 ^ (32 * w + r) = 4294967296 ^ w * 2 ^ r := by rw [Nat.pow_add, Nat.pow_mul]
  have h1 : X / 2 ^ (32 * w + r) / 4294967296 ^ i = X / 4294967296 ^ (i + w) / 2 ^ r := by
    rw [e, Nat.div_div_eq_div_mul, Nat.div_div_eq_div_mul]; congr 1
    rw [Nat.pow_add, Nat.mul_assoc, Nat.mul_comm (2 ^ r), ← Nat.mul_assoc, Nat.mul_comm (4294967296 ^ w)]
  rw [wd, h1, wd, wd, Nat.pow_succ, ← Nat.div_div_eq_div_mul]
  generalize X / 4294967296 ^ (i + w) = Z
  have h2 : Z % 4294967296 + 4294967296 * (Z / 4294967296 % 4294967296) = Z % (4294967296 * 4294967296) := (Nat.mod_mul).symm
  rw [h2]
  have h3 : (4294967296 * 4294967296 : Nat) = 2 ^ r * 2 ^ (64 - r) := by rw [← Nat.pow_add, show r + (64 - r) = 64 by omega]
  rw [h3, Nat.mod_mul_right_div_self]
  have h4 : 2 ^ (64 - r) = 4294967296 * 2 ^ (32 - r) := by
    rw [show 64 - r = 32 + (32 - r) by omega, Nat.pow_add]
  rw [h4, Nat.mod_mul_right_mod]
/-- The steps of a shift to the left. -/
theorem shl_step (X w r i : Nat) : X % 4294967296 ^ (i + 1) * 2 ^ (32 * w + r) = X % 4294967296 ^ i * 2 ^ (32 * w + r) + 4294967296 ^ (i + w) * (wd X i * 2 ^ r) := by
  have e : 2 ^ (32 * w + r) = 4294967296 ^ w * 2 ^ r := by rw [Nat.pow_add, Nat.pow_mul]
  rw [mod_succ, Nat.add_mul, e, Nat.pow_add]
  congr 1
  simp only [Nat.mul_assoc, Nat.mul_left_comm, Nat.mul_comm]
theorem shl_lt (X w r i : Nat) : X % 4294967296 ^ i * 2 ^ (32 * w + r) < 4294967296 ^ (i + w) * 2 ^ r := by
  have e : 2 ^ (32 * w + r) = 4294967296 ^ w * 2 ^ r := by rw [Nat.pow_add, Nat.pow_mul]
  rw [e, Nat.pow_add, ← Nat.mul_assoc]
  have h1 := Nat.mod_lt X (pow_pos' i)
  have h2 : 0 < 4294967296 ^ w * 2 ^ r := Nat.mul_pos (pow_pos' _) (Nat.pow_pos (by omega))
  rw [Nat.mul_assoc, Nat.mul_assoc]
  exact Nat.mul_lt_mul_of_pos_right h1 h2
/-- A number below 2^r and a multiple of 2^r: or is plus. -/
theorem or_plus {a b r : Nat} (ha : a < 2 ^ r) (hb : b % 2 ^ r = 0) : a ||| b = a + b := by
  have h1 : b = 2 ^ r * (b / 2 ^ r) := by have := Nat.div_add_mod b (2 ^ r); omega
  have h2 := Nat.two_pow_add_eq_or_of_lt ha (b / 2 ^ r)
  rw [← h1] at h2
  rw [Nat.or_comm, ← h2, Nat.add_comm]
/-- One step of a short division: the rest of what stands above, times the base, and a word. -/
theorem short_word (X y i : Nat) (hy : 0 < y) : wd (X / y) i = (X / 4294967296 ^ (i + 1) % y * 4294967296 + wd X i) / y := by
  have h1 : X / y / 4294967296 ^ i = X / 4294967296 ^ i / y := by rw [Nat.div_div_eq_div_mul, Nat.div_div_eq_div_mul, Nat.mul_comm]
  rw [wd, h1, wd, Nat.pow_succ, ← Nat.div_div_eq_div_mul]
  generalize X / 4294967296 ^ i = Z
  have h2 := Nat.div_add_mod Z 4294967296
  have h3 := Nat.div_add_mod (Z / 4294967296) y
  have h4 := Nat.mod_lt (Z / 4294967296) hy
  have h5 : Z = y * (4294967296 * (Z / 4294967296 / y)) + (Z / 4294967296 % y * 4294967296 + Z % 4294967296) := by
    have e : y * (4294967296 * (Z / 4294967296 / y)) = 4294967296 * (y * (Z / 4294967296 / y)) := Nat.mul_left_comm _ _ _
    omega
  have h6 : (Z / 4294967296 % y * 4294967296 + Z % 4294967296) / y < 4294967296 :=
    (Nat.div_lt_iff_lt_mul hy).2 (by
      have : (Z / 4294967296 % y + 1) * 4294967296 ≤ y * 4294967296 := Nat.mul_le_mul_right _ h4
      have := Nat.mod_lt Z (show 0 < 4294967296 by omega)
      rw [Nat.mul_comm 4294967296 y]; omega)
  have h7 : Z / y = 4294967296 * (Z / 4294967296 / y) + (Z / 4294967296 % y * 4294967296 + Z % 4294967296) / y := by
    conv => lhs; rw [h5]
    rw [Nat.mul_add_div hy]
  rw [h7, Nat.mul_add_mod, Nat.mod_eq_of_lt h6]
theorem short_rest (X y i : Nat) : X / 4294967296 ^ i % y = (X / 4294967296 ^ (i + 1) % y * 4294967296 + wd X i) % y := by
  rw [wd, Nat.pow_succ, ← Nat.div_div_eq_div_mul]
  generalize X / 4294967296 ^ i = Z
  have h2 := Nat.div_add_mod Z 4294967296
  conv => lhs; rw [← h2, Nat.add_mod, Nat.mul_comm 4294967296, Nat.mul_mod]
  conv => rhs; rw [Nat.add_mod, Nat.mul_mod, Nat.mod_mod]
end Pl
end Go.Proofs.Ytdpjknjlhchmcaa

namespace Go.Proofs.Ytdpjknjlhchmcaa
open Go.RowKit Pl
/-- The slice at the address A with the length 'ln n' holds the words of n. -/
def Nat32 (w : World) (A : Option Addr) (n : Nat) : Prop :=
  n ≠ 0 → ∃ b, A = some ⟨b, 0, none⟩ ∧ b < w.heap.size ∧ ∀ j, j < ln n → w.cell? ⟨b, j, none⟩ = some (.int .u32 (wd n j : Nat))
theorem Nat32.zero (w : World) (A : Option Addr) : Nat32 w A 0 := fun h => absurd rfl h
theorem Nat32.below {w w' : World} {A : Option Addr} {n : Nat} (h : Nat32 w A n) {B : Nat} (hB : w.heap.size ≤ B) (hb : Below B w w') : Nat32 w' A n := fun hn => by
  obtain ⟨b, e, hl, hc⟩ := h hn
  exact ⟨b, e, Nat.lt_of_lt_of_le hl hb.size, fun j hj => (hb.cell (p := ⟨b, j, none⟩) (Nat.lt_of_lt_of_le hl hB)).trans (hc j hj)⟩
theorem Nat32.to {w w' : World} {A : Option Addr} {n : Nat} (h : Nat32 w A n) (hb : Below w.heap.size w w') : Nat32 w' A n := h.below (Nat.le_refl _) hb
theorem Nat32.drew {w : World} {A : Option Addr} {n : Nat} (h : Nat32 w A n) : Nat32 w.drew A n := h
theorem Nat32.drewN {w : World} {A : Option Addr} {n : Nat} (h : Nat32 w A n) (k : Nat) : Nat32 (w.drewN k) A n := h
theorem Nat32.alloc {w : World} {A : Option Addr} {n : Nat} (h : Nat32 w A n) (o : Obj) : Nat32 (w.alloc o) A n := h.to ((Below.refl _ _).alloc (Nat.le_refl _) _)
/-- A row whose first words are those of n is the number n. -/
theorem Nat32.ofRow {w : World} {g : Nat} {t : TypeId} {m n : Nat} {f : Nat → Value} (h : w.rowIs g t m f) (hm : ln n ≤ m) (hf : ∀ j, j < ln n → f j = .int .u32 (wd n j : Nat)) : Nat32 w (some ⟨g, 0, none⟩) n :=
  fun _ => ⟨g, rfl, h.lt, fun j hj => by rw [h.cell (by omega), hf j hj]⟩
/-- A call hands back a number in words, and turns nothing that was there. -/
def RetNat (w : World) (n : Nat) (e : Ending) (w' : World) : Prop := ∃ A, e = .returned (.slice A (ln n) (ln n)) ∧ Nat32 w' A n ∧ Below w.heap.size w w'
theorem below_drewN {B : Nat} {a w : World} (h : Below B a w) (n : Nat) : Below B a (w.drewN n) := ⟨h.os, h.tape, h.output, h.size, h.block⟩
theorem Try.info_u32 : (Try.prog.info? 95).map (fun i => (i.zero, i.size, i.bytes)) = some (some (.int .u32 0), 1, 4) := by kernel_rfl
theorem Try.und_nat : Try.prog.underlying 30 = some (.slice 95) := by kernel_rfl
/-- 'make(nat, n)': a row of n zeros, in whatever world. -/
theorem mk_nat (n : Nat) (hn : n ≤ 70368744177664) (w : World) : (Instr.makeSlice 30 (.int .i64 (n : Int)) (.int .i64 (n : Int))).run Try.prog w = .ok (.slice (some ⟨w.heap.size, 0, none⟩) n n) (w.alloc (.cells (madeCells #[.int .u32 0] n) 95)) := by
  obtain ⟨i, hi, hz, hs, hb⟩ := info_parts Try.info_u32
  exact run_make_row _ _ i _ Try.und_nat hi hz hs rfl .i64 .i64 n (by rw [hb]; omega) (by omega) w
end Go.Proofs.Ytdpjknjlhchmcaa

namespace Go.Proofs.Ytdpjknjlhchmcaa
open Go.RowKit Pl
theorem lt_of_top {N k : Nat} (hk : 0 < k) (hN : N < 4294967296 ^ k) (h : wd N (k - 1) = 0) : N < 4294967296 ^ (k - 1) := by
  have e := mod_succ N (k - 1)
  rw [show k - 1 + 1 = k by omega, Nat.mod_eq_of_lt hN, h, Nat.mul_zero, Nat.add_zero] at e
  rw [e]
  exact Nat.mod_lt _ (pow_pos' _)
set_option maxHeartbeats 400000 in
theorem trim_any (w : World) (g m c N : Nat) (hm : m ≤ 70368744177664) (hmc : m ≤ c) (hN : N < 4294967296 ^ m) (hc : ∀ j, j < m → w.cell? ⟨g, j, none⟩ = some (.int .u32 (wd N j : Nat))) :
    Calls Try.prog 63 #[.slice (some ⟨g, 0, none⟩) m c] w fun e w' => e = .returned (.slice (some ⟨g, 0, none⟩) (ln N) (ln N)) ∧ w = w' := by
  go_enter Try.func63, Try.ntmps63
  go_wp2
  go_loop [3] (fun i => ∃ k : Nat, k ≤ m ∧ N < 4294967296 ^ k ∧ i = .int .i64 k) (fun i => (intOf i).toNat)
  case atStart => exact ⟨m, Nat.le_refl _, hN, rfl⟩
  case round =>
    obtain ⟨k, hk, hNk, rfl⟩ := hrel
    have hcell : 0 < k → w.cell? ⟨g, k - 1, none⟩ = some (.int .u32 (wd N (k - 1) : Nat)) := fun _ => hc _ (by omega)
    go_wp2
    · have h0 : ((wd N (k - 1) : Int) == 0) = true := by assumption
      have hk0 : 0 < k := by assumption
      go_round
      case rel => exact ⟨k - 1, by omega, lt_of_top hk0 hNk (by simpa using h0), by go_num⟩
      case measure => simp [intOf]; omega
    · have h0 : ((wd N (k - 1) : Int) == 0) = false := by assumption
      have hk0 : 0 < k := by assumption
      have e := ln_of_lt hNk (.inr (by simpa using h0))
      go_ret
      exact ⟨by rw [e]; rfl, rfl⟩
    · have hk0 : k = 0 := by omega
      have e := ln_of_lt hNk (.inl hk0)
      go_ret
      exact ⟨by rw [e]; rfl, rfl⟩
end Go.Proofs.Ytdpjknjlhchmcaa

namespace Go.Proofs.Ytdpjknjlhchmcaa
open Go.RowKit Pl
theorem ret_two {a b c d : Value} (h : a = c) (k : b = d) : Ending.returned (.tuple #[a, b]) = .returned (.tuple #[c, d]) := by rw [h, k]
theorem int_val {k : IntKind} {a b : Int} (h : a = b) : Value.int k a = .int k b := by rw [h]
theorem ret_bool {a b : Bool} (h : a = b) : Ending.returned (.bool a) = .returned (.bool b) := by rw [h]
theorem ret_int {k : IntKind} {a b : Int} (h : a = b) : Ending.returned (.int k a) = .returned (.int k b) := by rw [h]
theorem add32_any (x y c : Int) (hx0 : 0 ≤ x) (hx : x < 4294967296) (hy0 : 0 ≤ y) (hy : y < 4294967296) (hc0 : 0 ≤ c) (hc : c < 4294967296) (w : World) :
    Calls Try.prog 70 #[.int .u32 x, .int .u32 y, .int .u32 c] w fun e w' => e = .returned (.tuple #[.int .u32 ((x + y + c) % 4294967296), .int .u32 ((x + y + c) / 4294967296)]) ∧ w = w' := by
  go_enter Try.func70, Try.ntmps70
  go_wp2
  go_ret2
  exact ⟨rfl, rfl⟩
theorem natOf_words (N j : Nat) (hN : N < 18446744073709551616) (hj : j < 2) : (#[Value.int .u32 ((N : Int) % 4294967296), Value.int .u32 ((N : Int) / 4294967296)])[j]? = some (.int .u32 (wd N j : Nat)) := by
  match j, hj with
  | 0, _ => simp [wd_0]
  | 1, _ => simp [wd_1]; omega
set_option maxHeartbeats 400000 in
theorem natOf_any (N : Nat) (hN : N < 18446744073709551616) (w : World) :
    Calls Try.prog 69 #[.int .u64 N] w (RetNat w N) := by
  go_enter Try.func69, Try.ntmps69
  go_wp2_with fail
  refine (trim_any _ w.heap.size 2 2 N (by omega) (by omega) hN ?_).mono ?_
  · intro j hj
    rw [World.cell?_alloc_new]
    exact natOf_words N j hN hj
  rintro e w' ⟨rfl, rfl⟩
  go_wp2
  go_ret
  exact ⟨_, rfl, fun _ => ⟨w.heap.size, rfl, by simp, fun j hj => by
    rw [World.cell?_alloc_new]
    exact natOf_words N j hN (by have := ln_le (n := N) (k := 2) hN; omega)⟩, (Below.refl _ _).alloc (Nat.le_refl _) _⟩
set_option maxHeartbeats 400000 in
theorem one_any (n : Nat) (A : Option Addr) (w : World) (h : Nat32 w A n) :
    Calls Try.prog 61 #[.slice A (ln n) (ln n)] w fun e w' => e = .returned (.bool (decide (n = 1))) ∧ w = w' := by
  by_cases h1 : ln n = 1
  · have hn : n ≠ 0 := fun e => by rw [e, ln_zero] at h1; omega
    obtain ⟨b, rfl, _, hc⟩ := h hn
    have hlt : n < 4294967296 := by have := lt_ln n; rw [h1] at this; simpa using this
    have hw : wd n 0 = n := by rw [wd_0, Nat.mod_eq_of_lt hlt]
    have g := hc 0 (by omega)
    rw [hw] at g
    rw [h1]
    clear hc h hw h1
    go_enter Try.func61, Try.ntmps61
    go_wp2
    go_ret
    exact ⟨ret_bool (by rw [Bool.eq_iff_iff]; simp; omega), rfl⟩
  · have hn : n ≠ 1 := fun e => h1 (by rw [e, ln_one])
    have h2 : ((ln n : Int) == 1) = false := by simpa using fun e => h1 (by omega)
    have h3 : decide (n = 1) = false := by simpa using hn
    rw [h3]
    go_enter Try.func61, Try.ntmps61
    go_wp2
    go_ret
    exact ⟨rfl, rfl⟩
end Go.Proofs.Ytdpjknjlhchmcaa

namespace Go.Proofs.Ytdpjknjlhchmcaa
open Go.RowKit Pl
/-- What stands in the row before round k: the words of n below k, zeros behind them. -/
def part (n k : Nat) (j : Nat) : Value := .int .u32 ((if j < k then wd n j else 0 : Nat) : Int)
theorem part_zero (n j : Nat) : part n 0 j = .int .u32 0 := by simp [part]
theorem part_step (n k j : Nat) (v : Value) (hv : v = .int .u32 (wd n k : Nat)) : (if j = k then v else part n k j) = part n (k + 1) j := by
  unfold part
  by_cases h : j = k
  · subst h; rw [if_pos rfl, hv, if_pos (by omega)]
  · rw [if_neg h]
    by_cases h2 : j < k
    · rw [if_pos h2, if_pos (by omega)]
    · rw [if_neg h2, if_neg (by omega)]
theorem part_below {n k j : Nat} (h : j < k) : part n k j = .int .u32 (wd n j : Nat) := by unfold part; rw [if_pos h]
/-- The carry out of the words below k. -/
def cr (x y k : Nat) : Nat := (x % 4294967296 ^ k + y % 4294967296 ^ k) / 4294967296 ^ k
theorem cr_zero (x y : Nat) : cr x y 0 = 0 := by simp [cr, Nat.mod_one]
theorem cr_le (x y k : Nat) : cr x y k ≤ 1 := carry_le (pow_pos' k)
theorem cr_word (x y k : Nat) : (wd x k + wd y k + cr x y k) % 4294967296 = wd (x + y) k := add_word (pow_pos' k)
theorem cr_step (x y k : Nat) : (wd x k + wd y k + cr x y k) / 4294967296 = cr x y (k + 1) := by
  unfold cr wd
  rw [add_carry (pow_pos' k), Nat.pow_succ]
/-- The carry out of all words is the word above them. -/
theorem cr_top {x y k : Nat} (hx : x < 4294967296 ^ k) (hy : y < 4294967296 ^ k) : cr x y k = wd (x + y) k := by
  have h := cr_word x y k
  rw [wd_top hx (Nat.le_refl _), wd_top hy (Nat.le_refl _)] at h
  have := cr_le x y k
  omega
set_option maxHeartbeats 400000 in
theorem add_ge (x y : Nat) (A B : Option Addr) (w : World) (hx : Nat32 w A x) (hy : Nat32 w B y) (hbx : ln x ≤ 35184372088832) (hl : ln y ≤ ln x) :
    Calls Try.prog 58 #[.slice A (ln x) (ln x), .slice B (ln y) (ln y)] w (RetNat w (x + y)) := by
  have hmk := mk_nat (ln x + 1) (by omega)
  have ec : ((ln x + 1 : Nat) : Int) = (ln x : Int) + 1 := by omega
  rw [ec] at hmk
  clear ec
  have hs : decide (ln x < ln y) = false := by simpa using hl
  go_enter Try.func58, Try.ntmps58
  go_wp2_with fail
  have hN : x + y < 4294967296 ^ (ln x + 1) := lt_of_ln (by have := ln_add x y; omega)
  have hrow := (World.rowIs_made w (.int .u32 0) (ln x + 1) 95).congr (g := part (x + y) 0) fun j _ => (part_zero _ _).symm
  have hbel := (Below.refl w.heap.size w).alloc (Nat.le_refl _) (.cells (madeCells #[.int .u32 0] (ln x + 1)) 95)
  go_loopw [6, 22] (fun c i wr => ∃ k : Nat, k ≤ ln x ∧ i = .int .i64 k ∧ c = .int .u32 (cr x y k : Nat) ∧ wr.rowIs w.heap.size 95 (ln x + 1) (part (x + y) k) ∧ Below w.heap.size w wr) (fun _ i _ => ln x - (intOf i).toNat)
  case atStart => exact ⟨0, Nat.zero_le _, rfl, by rw [cr_zero]; rfl, hrow, hbel⟩
  case round =>
    obtain ⟨k, hk, rfl, rfl, hrowk, hbelk⟩ := hrel
    clear hrow hbel hmk
    have hc1 := cr_le x y k
    by_cases hlt : k < ln x
    · have hx0 : x ≠ 0 := fun e => by rw [e, ln_zero] at hlt; omega
      obtain ⟨b, rfl, hb, hcx⟩ := hx hx0
      have hxk := (hbelk.cell (p := ⟨b, k, none⟩) hb).trans (hcx k hlt)
      have hst := hrowk.cell (i := k) (by omega)
      have hfr := hrowk.frozen k
      have b1 := wd_lt x k
      have b2 := wd_lt y k
      clear hcx
      by_cases hly : k < ln y
      · have hy0 : y ≠ 0 := fun e => by rw [e, ln_zero] at hly; omega
        obtain ⟨b', rfl, hb', hcy⟩ := hy hy0
        have hyk := (hbelk.cell (p := ⟨b', k, none⟩) hb').trans (hcy k hly)
        clear hcy
        go_wp2_with fail
        refine (add32_any _ _ _ (by omega) (by omega) (by omega) (by omega) (by omega) (by omega) _).mono ?_
        rintro e w' ⟨rfl, rfl⟩
        go_wp2
        go_roundw
        case rel => exact ⟨k + 1, by omega, by go_num, int_val (by rw [← cr_step]; omega), (hrowk.set _ _).congr fun j _ => part_step _ _ _ _ (int_val (by rw [← cr_word]; omega)), hbelk.setCell (by simp) _⟩
        case measure => simp [intOf]; omega
      · have hyz := wd_high (n := y) (k := k) (by omega)
        go_wp2_with fail
        refine (add32_any _ _ _ (by omega) (by omega) (by omega) (by omega) (by omega) (by omega) _).mono ?_
        rintro e w' ⟨rfl, rfl⟩
        go_wp2
        go_roundw
        case rel => exact ⟨k + 1, by omega, by go_num, int_val (by rw [← cr_step, hyz]; omega), (hrowk.set _ _).congr fun j _ => part_step _ _ _ _ (int_val (by rw [← cr_word, hyz]; omega)), hbelk.setCell (by simp) _⟩
        case measure => simp [intOf]; omega
    · obtain rfl : k = ln x := by omega
      have hst := hrowk.cell (i := ln x) (by omega)
      have hfr := hrowk.frozen (ln x)
      have htop := cr_top (lt_ln x) (lt_of_ln hl)
      have hrow2 := (hrowk.set (ln x) (.int .u32 (cr x y (ln x) : Nat))).congr (g := part (x + y) (ln x + 1)) fun j _ => part_step _ _ _ _ (by rw [htop])
      have hbel2 := hbelk.setCell (p := ⟨w.heap.size, ln x, none⟩) (Nat.le_refl _) (.int .u32 (cr x y (ln x) : Nat))
      have HT := Lib.hid htop
      clear htop
      go_wp2_with fail
      refine (trim_any _ w.heap.size (ln x + 1) (ln x + 1) (x + y) (by omega) (by omega) hN fun j hj => by rw [hrow2.cell hj, part_below hj]).mono ?_
      rintro e w' ⟨rfl, rfl⟩
      go_wp2
      go_ret
      exact ⟨_, rfl, Nat32.ofRow hrow2 (ln_le hN) fun j hj => part_below (by have := ln_le hN; omega), hbel2⟩
set_option maxHeartbeats 400000 in
theorem add_lt (x y : Nat) (A B : Option Addr) (w : World) (hx : Nat32 w A x) (hy : Nat32 w B y) (hbx : ln x ≤ 35184372088832) (hl : ln y < ln x) :
    Calls Try.prog 58 #[.slice B (ln y) (ln y), .slice A (ln x) (ln x)] w (RetNat w (x + y)) := by
  have hmk := mk_nat (ln x + 1) (by omega)
  have ec : ((ln x + 1 : Nat) : Int) = (ln x : Int) + 1 := by omega
  rw [ec] at hmk
  clear ec
  have hs : decide (ln y < ln x) = true := by simpa using hl
  go_enter Try.func58, Try.ntmps58
  go_wp2_with fail
  have hN : x + y < 4294967296 ^ (ln x + 1) := lt_of_ln (by have := ln_add x y; omega)
  have hrow := (World.rowIs_made w (.int .u32 0) (ln x + 1) 95).congr (g := part (x + y) 0) fun j _ => (part_zero _ _).symm
  have hbel := (Below.refl w.heap.size w).alloc (Nat.le_refl _) (.cells (madeCells #[.int .u32 0] (ln x + 1)) 95)
  go_loopw [6, 22] (fun c i wr => ∃ k : Nat, k ≤ ln x ∧ i = .int .i64 k ∧ c = .int .u32 (cr x y k : Nat) ∧ wr.rowIs w.heap.size 95 (ln x + 1) (part (x + y) k) ∧ Below w.heap.size w wr) (fun _ i _ => ln x - (intOf i).toNat)
  case atStart => exact ⟨0, Nat.zero_le _, rfl, by rw [cr_zero]; rfl, hrow, hbel⟩
  case round =>
    obtain ⟨k, hk, rfl, rfl, hrowk, hbelk⟩ := hrel
    clear hrow hbel hmk
    have hc1 := cr_le x y k
    by_cases hlt : k < ln x
    · have hx0 : x ≠ 0 := fun e => by rw [e, ln_zero] at hlt; omega
      obtain ⟨b, rfl, hb, hcx⟩ := hx hx0
      have hxk := (hbelk.cell (p := ⟨b, k, none⟩) hb).trans (hcx k hlt)
      have hst := hrowk.cell (i := k) (by omega)
      have hfr := hrowk.frozen k
      have b1 := wd_lt x k
      have b2 := wd_lt y k
      clear hcx
      by_cases hly : k < ln y
      · have hy0 : y ≠ 0 := fun e => by rw [e, ln_zero] at hly; omega
        obtain ⟨b', rfl, hb', hcy⟩ := hy hy0
        have hyk := (hbelk.cell (p := ⟨b', k, none⟩) hb').trans (hcy k hly)
        clear hcy
        go_wp2_with fail
        refine (add32_any _ _ _ (by omega) (by omega) (by omega) (by omega) (by omega) (by omega) _).mono ?_
        rintro e w' ⟨rfl, rfl⟩
        go_wp2
        go_roundw
        case rel => exact ⟨k + 1, by omega, by go_num, int_val (by rw [← cr_step]; omega), (hrowk.set _ _).congr fun j _ => part_step _ _ _ _ (int_val (by rw [← cr_word]; omega)), hbelk.setCell (by simp) _⟩
        case measure => simp [intOf]; omega
      · have hyz := wd_high (n := y) (k := k) (by omega)
        go_wp2_with fail
        refine (add32_any _ _ _ (by omega) (by omega) (by omega) (by omega) (by omega) (by omega) _).mono ?_
        rintro e w' ⟨rfl, rfl⟩
        go_wp2
        go_roundw
        case rel => exact ⟨k + 1, by omega, by go_num, int_val (by rw [← cr_step, hyz]; omega), (hrowk.set _ _).congr fun j _ => part_step _ _ _ _ (int_val (by rw [← cr_word, hyz]; omega)), hbelk.setCell (by simp) _⟩
        case measure => simp [intOf]; omega
    · obtain rfl : k = ln x := by omega
      have hst := hrowk.cell (i := ln x) (by omega)
      have hfr := hrowk.frozen (ln x)
      have htop := cr_top (lt_ln x) (lt_of_ln (Nat.le_of_lt hl))
      have hrow2 := (hrowk.set (ln x) (.int .u32 (cr x y (ln x) : Nat))).congr (g := part (x + y) (ln x + 1)) fun j _ => part_step _ _ _ _ (by rw [htop])
      have hbel2 := hbelk.setCell (p := ⟨w.heap.size, ln x, none⟩) (Nat.le_refl _) (.int .u32 (cr x y (ln x) : Nat))
      have HT := Lib.hid htop
      clear htop
      go_wp2_with fail
      refine (trim_any _ w.heap.size (ln x + 1) (ln x + 1) (x + y) (by omega) (by omega) hN fun j hj => by rw [hrow2.cell hj, part_below hj]).mono ?_
      rintro e w' ⟨rfl, rfl⟩
      go_wp2
      go_ret
      exact ⟨_, rfl, Nat32.ofRow hrow2 (ln_le hN) fun j hj => part_below (by have := ln_le hN; omega), hbel2⟩
/-- 'x.add(y)'. -/
theorem add_any (x y : Nat) (A B : Option Addr) (w : World) (hx : Nat32 w A x) (hy : Nat32 w B y) (hbx : ln x ≤ 35184372088832) (hby : ln y ≤ 35184372088832) :
    Calls Try.prog 58 #[.slice A (ln x) (ln x), .slice B (ln y) (ln y)] w (RetNat w (x + y)) := by
  rcases Nat.lt_or_ge (ln x) (ln y) with h | h
  · rw [Nat.add_comm]; exact add_lt y x B A w hy hx hby h
  · exact add_ge x y A B w hx hy hbx h
end Go.Proofs.Ytdpjknjlhchmcaa

namespace Go.Proofs.Ytdpjknjlhchmcaa
open Go.RowKit Pl
theorem sub_bit (x y d : Nat) : (((4294967295 ^^^ x) &&& y) ||| ((4294967295 ^^^ (x ^^^ y)) &&& d)) / 2147483648 = ((1 ^^^ x / 2147483648) &&& (y / 2147483648)) ||| ((1 ^^^ (x / 2147483648 ^^^ y / 2147483648)) &&& (d / 2147483648)) := by
  have e : ∀ n : Nat, n / 2147483648 = n >>> 31 := fun n => by rw [Nat.shiftRight_eq_div_pow]
  simp only [e, Nat.shiftRight_or_distrib, Nat.shiftRight_and_distrib, Nat.shiftRight_xor_distrib, show (4294967295 >>> 31 : Nat) = 1 by decide]
theorem sub_bor (x y c d : Nat) (hx : x < 4294967296) (hy : y < 4294967296) (hc : c ≤ 1) (hd : d = (x + 8589934592 - y - c) % 4294967296) : (((4294967295 ^^^ x) &&& y) ||| ((4294967295 ^^^ (x ^^^ y)) &&& d)) / 2147483648 = if x < y + c then 1 else 0 := by
  rw [sub_bit]
  have h1 : x / 2147483648 = 0 ∨ x / 2147483648 = 1 := by omega
  have h2 : y / 2147483648 = 0 ∨ y / 2147483648 = 1 := by omega
  have h3 : d / 2147483648 = 0 ∨ d / 2147483648 = 1 := by omega
  rcases h1 with h1 | h1 <;> rcases h2 with h2 | h2 <;> rcases h3 with h3 | h3 <;> rw [h1, h2, h3] <;> simp only [show ((1 ^^^ 0) &&& 0 ||| (1 ^^^ (0 ^^^ 0)) &&& 0 : Nat) = 0 by decide, show ((1 ^^^ 0) &&& 0 ||| (1 ^^^ (0 ^^^ 0)) &&& 1 : Nat) = 1 by decide, show ((1 ^^^ 0) &&& 1 ||| (1 ^^^ (0 ^^^ 1)) &&& 0 : Nat) = 1 by decide, show ((1 ^^^ 0) &&& 1 ||| (1 ^^^ (0 ^^^ 1)) &&& 1 : Nat) = 1 by decide, show ((1 ^^^ 1) &&& 0 ||| (1 ^^^ (1 ^^^ 0)) &&& 0 : Nat) = 0 by decide, show ((1 ^^^ 1) &&& 0 ||| (1 ^^^ (1 ^^^ 0)) &&& 1 : Nat) = 0 by decide, show ((1 ^^^ 1) &&& 1 ||| (1 ^^^ (1 ^^^ 1)) &&& 0 : Nat) = 0 by decide, show ((1 ^^^ 1) &&& 1 ||| (1 ^^^ (1 ^^^ 1)) &&& 1 : Nat) = 1 by decide] <;> split <;> omega
/-- The borrow of one word. -/
def bw (x y c : Nat) : Nat := if x < y + c then 1 else 0
theorem sub32_any (x y c : Nat) (hx : x < 4294967296) (hy : y < 4294967296) (hc : c ≤ 1) (w : World) :
    Calls Try.prog 71 #[.int .u32 x, .int .u32 y, .int .u32 c] w fun e w' => e = .returned (.tuple #[.int .u32 ((x + 8589934592 - y - c) % 4294967296 : Nat), .int .u32 (bw x y c : Nat)]) ∧ w = w' := by
  have hsg : IntKind.u32.signed = false := rfl
  go_enter Try.func71, Try.ntmps71
  go_wp2
  go_ret2
  obtain ⟨d, hd⟩ : ∃ d, d = (x + 8589934592 - y - c) % 4294967296 := ⟨_, rfl⟩
  have e : ((x : Int) - (y : Int) - (c : Int)) % 4294967296 = (d : Int) := by omega
  have em : IntKind.u32.max = ((4294967295 : Nat) : Int) := rfl
  have b1 : 4294967295 ^^^ x < 4294967296 := Nat.xor_lt_two_pow (n := 32) (by omega) hx
  have b2 : x ^^^ y < 4294967296 := Nat.xor_lt_two_pow (n := 32) hx hy
  have b3 : 4294967295 ^^^ (x ^^^ y) < 4294967296 := Nat.xor_lt_two_pow (n := 32) (by omega) b2
  have b4 : (4294967295 ^^^ x) &&& y < 4294967296 := Nat.and_lt_two_pow (n := 32) _ hy
  have hd2 : d < 4294967296 := by omega
  have b5 : (4294967295 ^^^ (x ^^^ y)) &&& d < 4294967296 := Nat.and_lt_two_pow (n := 32) _ hd2
  have h := sub_bor x y c d hx hy hc hd
  refine ⟨ret_two (int_val (by omega)) (int_val ?_), rfl⟩
  rw [e, em, u32_xor_nat _ _ (by omega) hx, u32_and_nat _ _ b1 hy, u32_xor_nat _ _ hx hy, u32_xor_nat _ _ (by omega) b2, u32_and_nat _ _ b3 hd2, u32_or_nat _ _ b4 b5]
  unfold bw
  rw [← h]
  simp
/-- The borrow out of the words below k. -/
def sb (x y k : Nat) : Nat := bor x y (4294967296 ^ k)
theorem sb_zero (x y : Nat) : sb x y 0 = 0 := by simp [sb, bor, Nat.mod_one]
theorem sb_le (x y k : Nat) : sb x y k ≤ 1 := bor_le
theorem sb_step (x y k : Nat) : bw (wd x k) (wd y k) (sb x y k) = sb x y (k + 1) := by
  unfold sb bw wd
  rw [Nat.pow_succ, sub_carry (pow_pos' k)]
theorem sb_word {x y : Nat} (k : Nat) (h : y ≤ x) : (wd x k + 8589934592 - wd y k - sb x y k) % 4294967296 = wd (x - y) k := by
  have h1 : (x / 4294967296 ^ k % 4294967296 + 8589934592 - y / 4294967296 ^ k % 4294967296 - bor x y (4294967296 ^ k)) % 4294967296 = (x + 4294967296 ^ k * 4294967296 * 0 - y) / 4294967296 ^ k % 4294967296 :=
    sub_word (X := x) (Y := y) (pow_pos' k) 0 (Nat.le_trans h (Nat.le_add_right _ _))
  have h2 : x + 4294967296 ^ k * 4294967296 * 0 - y = x - y := by rw [Nat.mul_zero, Nat.add_zero]
  rw [h2] at h1
  unfold sb wd
  exact h1
set_option maxHeartbeats 400000 in
theorem sub_any (x y : Nat) (A B : Option Addr) (w : World) (hx : Nat32 w A x) (hy : Nat32 w B y) (hbx : ln x ≤ 35184372088832) (hle : y ≤ x) :
    Calls Try.prog 59 #[.slice A (ln x) (ln x), .slice B (ln y) (ln y)] w (RetNat w (x - y)) := by
  have hmk := mk_nat (ln x) (by omega)
  have hl := ln_mono hle
  go_enter Try.func59, Try.ntmps59
  go_wp2_with fail
  have hN : x - y < 4294967296 ^ ln x := lt_of_ln (ln_mono (Nat.sub_le _ _))
  have hrow := (World.rowIs_made w (.int .u32 0) (ln x) 95).congr (g := part (x - y) 0) fun j _ => (part_zero _ _).symm
  have hbel := (Below.refl w.heap.size w).alloc (Nat.le_refl _) (.cells (madeCells #[.int .u32 0] (ln x)) 95)
  go_loopw [6, 14] (fun c i wr => ∃ k : Nat, k ≤ ln x ∧ i = .int .i64 k ∧ c = .int .u32 (sb x y k : Nat) ∧ wr.rowIs w.heap.size 95 (ln x) (part (x - y) k) ∧ Below w.heap.size w wr) (fun _ i _ => ln x - (intOf i).toNat)
  case atStart => exact ⟨0, Nat.zero_le _, rfl, by rw [sb_zero]; rfl, hrow, hbel⟩
  case round =>
    obtain ⟨k, hk, rfl, rfl, hrowk, hbelk⟩ := hrel
    clear hrow hbel hmk
    have hc1 := sb_le x y k
    by_cases hlt : k < ln x
    · have hx0 : x ≠ 0 := fun e => by rw [e, ln_zero] at hlt; omega
      obtain ⟨b, rfl, hb, hcx⟩ := hx hx0
      have hxk := (hbelk.cell (p := ⟨b, k, none⟩) hb).trans (hcx k hlt)
      have hst := hrowk.cell (i := k) (by omega)
      have hfr := hrowk.frozen k
      have b1 := wd_lt x k
      have b2 := wd_lt y k
      clear hcx
      by_cases hly : k < ln y
      · have hy0 : y ≠ 0 := fun e => by rw [e, ln_zero] at hly; omega
        obtain ⟨b', rfl, hb', hcy⟩ := hy hy0
        have hyk := (hbelk.cell (p := ⟨b', k, none⟩) hb').trans (hcy k hly)
        clear hcy
        go_wp2_with fail
        refine (sub32_any (wd x k) (wd y k) (sb x y k) b1 b2 hc1 _).mono ?_
        rintro e w' ⟨rfl, rfl⟩
        go_wp2
        go_roundw
        case rel => exact ⟨k + 1, by omega, by go_num, int_val (by rw [sb_step]), (hrowk.set _ _).congr fun j _ => part_step _ _ _ _ (int_val (by have := sb_word k hle; omega)), hbelk.setCell (by simp) _⟩
        case measure => simp [intOf]; omega
      · have hyz := wd_high (n := y) (k := k) (by omega)
        go_wp2_with fail
        refine (sub32_any (wd x k) 0 (sb x y k) b1 (by omega) hc1 _).mono ?_
        rintro e w' ⟨rfl, rfl⟩
        go_wp2
        go_roundw
        case rel => exact ⟨k + 1, by omega, by go_num, int_val (by rw [← sb_step, hyz]), (hrowk.set _ _).congr fun j _ => part_step _ _ _ _ (int_val (by have := sb_word k hle; omega)), hbelk.setCell (by simp) _⟩
        case measure => simp [intOf]; omega
    · obtain rfl : k = ln x := by omega
      go_wp2_with fail
      refine (trim_any _ w.heap.size (ln x) (ln x) (x - y) (by omega) (by omega) hN fun j hj => by rw [hrowk.cell hj, part_below hj]).mono ?_
      rintro e w' ⟨rfl, rfl⟩
      go_wp2
      go_ret
      exact ⟨_, rfl, Nat32.ofRow hrowk (ln_le hN) fun j hj => part_below (by have := ln_le hN; omega), hbelk⟩
end Go.Proofs.Ytdpjknjlhchmcaa

namespace Go.Proofs.Ytdpjknjlhchmcaa
open Go.RowKit Pl
/-- The order of two numbers: -1, 0, 1. -/
def cmpN (x y : Nat) : Int := if x < y then -1 else if x = y then 0 else 1
theorem cmpN_lt {x y : Nat} (h : x < y) : cmpN x y = -1 := by unfold cmpN; rw [if_pos h]
theorem cmpN_eq {x y : Nat} (h : x = y) : cmpN x y = 0 := by unfold cmpN; rw [if_neg (by omega), if_pos h]
theorem cmpN_gt {x y : Nat} (h : y < x) : cmpN x y = 1 := by unfold cmpN; rw [if_neg (by omega), if_neg (by omega)]
theorem hi_step {x y k : Nat} (hk : 0 < k) (h : x / 4294967296 ^ k = y / 4294967296 ^ k) :
    (wd x (k - 1) < wd y (k - 1) → x < y) ∧ (wd x (k - 1) = wd y (k - 1) → x / 4294967296 ^ (k - 1) = y / 4294967296 ^ (k - 1)) := by
  obtain ⟨j, rfl⟩ : ∃ j, k = j + 1 := ⟨k - 1, by omega⟩
  rw [Nat.pow_succ, ← Nat.div_div_eq_div_mul, ← Nat.div_div_eq_div_mul] at h
  simp only [Nat.add_sub_cancel, wd]
  constructor
  · intro h1
    have h2 : x / 4294967296 ^ j < y / 4294967296 ^ j := by omega
    rcases Nat.lt_or_ge x y with h3 | h3
    · exact h3
    · have := Nat.div_le_div_right (c := 4294967296 ^ j) h3
      omega
  · intro h1; omega
/-- A call hands back an int, and turns nothing that was there. -/
def RetInt (w : World) (z : Int) (e : Ending) (w' : World) : Prop := e = .returned (.int .i64 z) ∧ Below w.heap.size w w'
def RetBool (w : World) (z : Bool) (e : Ending) (w' : World) : Prop := e = .returned (.bool z) ∧ Below w.heap.size w w'
set_option maxHeartbeats 400000 in
theorem cmp_eq (x y : Nat) (A B : Option Addr) (w : World) (hx : Nat32 w A x) (hy : Nat32 w B y) (hbx : ln x ≤ 35184372088832) (hl : ln y = ln x) :
    Calls Try.prog 39 #[.slice A (ln x) (ln x), .slice B (ln x) (ln x)] w (RetInt w (cmpN x y)) := by
  have HL := Lib.hid hl
  clear hl
  go_enter Try.func39, Try.ntmps39
  go_wp2_with fail
  go_loopw [5] (fun i wr => ∃ k : Nat, k ≤ ln x ∧ i = .int .i64 ((k : Int) - 1) ∧ x / 4294967296 ^ k = y / 4294967296 ^ k ∧ Below w.heap.size w wr) (fun i _ => (intOf i + 1).toNat)
  case atStart => exact ⟨ln x, Nat.le_refl _, by go_num, by rw [Nat.div_eq_of_lt (lt_ln x), ← HL.out, Nat.div_eq_of_lt (lt_ln y)], Below.refl _ _⟩
  case round =>
    obtain ⟨k, hk, rfl, hdiv, hbelk⟩ := hrel
    have HD := Lib.hid hdiv
    clear hdiv
    by_cases hk0 : 0 < k
    · have hx0 : x ≠ 0 := fun e => by rw [e, ln_zero] at hk; omega
      have hy0 : y ≠ 0 := fun e => by have := HL.out; rw [e, ln_zero] at this; omega
      obtain ⟨b, rfl, hb, hcx⟩ := hx hx0
      obtain ⟨b', rfl, hb', hcy⟩ := hy hy0
      have hxk := (hbelk.cell (p := ⟨b, k - 1, none⟩) hb).trans (hcx (k - 1) (by omega))
      have hyk := (hbelk.cell (p := ⟨b', k - 1, none⟩) hb').trans (hcy (k - 1) (by have := HL.out; omega))
      clear hcx hcy
      rcases Nat.lt_trichotomy (wd x (k - 1)) (wd y (k - 1)) with h | h | h
      · go_wp2
        go_quiet (fail)
        go_wp2
        go_ret
        exact ⟨ret_int (cmpN_lt ((hi_step hk0 HD.out).1 h)).symm, below_drewN hbelk _⟩
      · have h1 : ¬ wd x (k - 1) < wd y (k - 1) := by omega
        have h2 : ¬ wd y (k - 1) < wd x (k - 1) := by omega
        have HE := Lib.hid h
        clear h
        go_wp2
        go_quiet (fail)
        go_wp2
        go_quiet (fail)
        go_wp2
        go_roundw
        case rel => exact ⟨k - 1, by omega, by go_num, (hi_step hk0 HD.out).2 HE.out, below_drewN hbelk _⟩
        case measure => simp [intOf]; omega
      · have h1 : ¬ wd x (k - 1) < wd y (k - 1) := by omega
        go_wp2
        go_quiet (fail)
        go_wp2
        go_quiet (fail)
        go_wp2
        go_ret
        exact ⟨ret_int (cmpN_gt ((hi_step hk0 HD.out.symm).1 h)).symm, below_drewN (below_drewN hbelk _) _⟩
    · obtain rfl : k = 0 := by omega
      go_wp2
      go_ret
      exact ⟨ret_int (cmpN_eq (by have := HD.out; simpa using this)).symm, hbelk⟩
set_option maxHeartbeats 400000 in
/-- 'x.cmp(y)'. -/
theorem cmp_any (x y : Nat) (A B : Option Addr) (w : World) (hx : Nat32 w A x) (hy : Nat32 w B y) (hbx : ln x ≤ 35184372088832) :
    Calls Try.prog 39 #[.slice A (ln x) (ln x), .slice B (ln y) (ln y)] w (RetInt w (cmpN x y)) := by
  rcases Nat.lt_trichotomy (ln x) (ln y) with h | h | h
  · have hc := cmpN_lt (lt_of_ln_lt h)
    have hne : ((ln x : Int) != (ln y : Int)) = true := by rw [bne_iff_ne]; omega
    rw [hc]
    clear hc
    go_enter Try.func39, Try.ntmps39
    go_wp2
    go_ret
    exact ⟨rfl, Below.refl _ _⟩
  · rw [← h]
    exact cmp_eq x y A B w hx hy hbx h.symm
  · have hc := cmpN_gt (lt_of_ln_lt h)
    have hne : ((ln x : Int) != (ln y : Int)) = true := by rw [bne_iff_ne]; omega
    rw [hc]
    clear hc
    go_enter Try.func39, Try.ntmps39
    go_wp2
    go_ret
    exact ⟨rfl, Below.refl _ _⟩
end Go.Proofs.Ytdpjknjlhchmcaa

namespace Go.Proofs.Ytdpjknjlhchmcaa
open Go.RowKit Pl
/-- A row that holds the words of n. -/
def rowN (n j : Nat) : Value := .int .u32 (wd n j : Nat)
/-- A row that holds the words of n below m, and those of p from m on. -/
def rowM (n p m j : Nat) : Value := .int .u32 ((if j < m then wd n j else wd p j : Nat) : Int)
theorem rowN_zero (j : Nat) : rowN 0 j = .int .u32 0 := by simp [rowN, wd_zero]
theorem rowM_at (n p m : Nat) : rowM n p m m = .int .u32 (wd p m : Nat) := by simp [rowM]
theorem mul_in {P Y a i k j : Nat} {v : Value} (hv : v = .int .u32 (wd (mt P Y a i (k + 1)) (i + k) : Nat)) : (if j = i + k then v else rowM (mt P Y a i k) P (i + k) j) = rowM (mt P Y a i (k + 1)) P (i + (k + 1)) j := by
  unfold rowM
  by_cases h : j = i + k
  · subst h; rw [if_pos rfl, hv, if_pos (by omega)]
  · rw [if_neg h]
    by_cases h2 : j < i + k
    · rw [if_pos h2, if_pos (by omega), mt_low _ _ _ _ _ _ h2]
    · rw [if_neg h2, if_neg (by omega)]
theorem mul_start (P Y a i j : Nat) : rowN P j = rowM (mt P Y a i 0) P (i + 0) j := by
  unfold rowN rowM
  by_cases h : j < i + 0
  · rw [if_pos h, mt_zero_low _ _ _ _ _ (by omega)]
  · rw [if_neg h]
/-- The product of the words of X below i, and Y. -/
def pp (X Y i : Nat) : Nat := X % 4294967296 ^ i * Y
theorem pp_zero (X Y : Nat) : pp X Y 0 = 0 := by simp [pp, Nat.mod_one]
theorem pp_lt (X Y i : Nat) : pp X Y i < 4294967296 ^ (i + ln Y) := mul_part_lt X Y i
theorem pp_end (X Y : Nat) : pp X Y (ln X) = X * Y := by unfold pp; rw [Nat.mod_eq_of_lt (lt_ln X)]
theorem pp_next (X Y i : Nat) : mt (pp X Y i) Y (wd X i) i (ln Y) = pp X Y (i + 1) := by
  rw [mt_end (pp_lt X Y i) (lt_ln Y)]; exact mul_round X Y i
theorem mul_out {X Y i j : Nat} {v : Value} (hv : v = .int .u32 (mc (pp X Y i) Y (wd X i) i (ln Y) : Nat)) : (if j = i + ln Y then v else rowM (mt (pp X Y i) Y (wd X i) i (ln Y)) (pp X Y i) (i + ln Y) j) = rowN (pp X Y (i + 1)) j := by
  rw [pp_next]
  have e : mc (pp X Y i) Y (wd X i) i (ln Y) = wd (pp X Y (i + 1)) (i + ln Y) := by
    rw [mc, pp_next, lin_top (by have := pp_lt X Y (i + 1); rw [show i + 1 + ln Y = i + ln Y + 1 by omega] at this; exact this)]
  unfold rowM rowN
  by_cases h : j = i + ln Y
  · subst h; rw [if_pos rfl, hv, e]
  · rw [if_neg h]
    by_cases h2 : j < i + ln Y
    · rw [if_pos h2]
    · rw [if_neg h2, wd_top (pp_lt X Y i) (by omega), wd_top (pp_lt X Y (i + 1)) (by omega)]
theorem prod_le {a b : Nat} (ha : a < 4294967296) (hb : b < 4294967296) : (a : Int) * (b : Int) ≤ 18446744065119617025 := by
  have h : a * b ≤ 4294967295 * 4294967295 := Nat.mul_le_mul (by omega) (by omega)
  have e : ((a * b : Nat) : Int) = (a : Int) * (b : Int) := Int.natCast_mul a b
  omega
set_option maxHeartbeats 1000000 in
theorem mul_pos (x y : Nat) (A B : Option Addr) (w : World) (hx : Nat32 w A x) (hy : Nat32 w B y) (hbx : ln x ≤ 35184372088832) (hby : ln y ≤ 35184372088832) (hx0 : x ≠ 0) (hy0 : y ≠ 0) :
    Calls Try.prog 37 #[.slice A (ln x) (ln x), .slice B (ln y) (ln y)] w (RetNat w (x * y)) := by
  have hmk := mk_nat (ln x + ln y) (by omega)
  have ec : ((ln x + ln y : Nat) : Int) = (ln x : Int) + (ln y : Int) := by omega
  rw [ec] at hmk
  clear ec
  have lx := ln_pos hx0
  have ly := ln_pos hy0
  have t1 : ((ln x : Int) == 0) = false := by simpa using fun e => by omega
  have t2 : ((ln y : Int) == 0) = false := by simpa using fun e => by omega
  have hN : x * y < 4294967296 ^ (ln x + ln y) := lt_of_ln (ln_mul x y)
  obtain ⟨b, rfl, hb, hcx⟩ := hx hx0
  obtain ⟨b', rfl, hb', hcy⟩ := hy hy0
  have HX := Lib.hid hcx
  have HY := Lib.hid hcy
  clear hcx hcy
  go_enter Try.func37, Try.ntmps37
  go_wp2_with fail
  have hrow := (World.rowIs_made w (.int .u32 0) (ln x + ln y) 95).congr (g := rowN (pp x y 0)) fun j _ => by rw [pp_zero, rowN_zero]
  have hbel := (Below.refl w.heap.size w).alloc (Nat.le_refl _) (.cells (madeCells #[.int .u32 0] (ln x + ln y)) 95)
  go_loopw [27] (fun i wr => ∃ k : Nat, k ≤ ln x ∧ i = .int .i64 k ∧ wr.rowIs w.heap.size 95 (ln x + ln y) (rowN (pp x y k)) ∧ Below w.heap.size w wr) (fun i _ => ln x - (intOf i).toNat)
  case atStart => exact ⟨0, Nat.zero_le _, rfl, hrow, hbel⟩
  case round =>
    obtain ⟨i, hi, rfl, hrowi, hbeli⟩ := hrel
    clear hrow hbel hmk
    obtain ⟨wo, rfl⟩ : ∃ wo : World, wo = wr := ⟨_, rfl⟩
    by_cases hlt : i < ln x
    · have hxi := (hbeli.cell (p := ⟨b, i, none⟩) hb).trans (HX.out i hlt)
      have b1 := wd_lt x i
      go_wp2_with fail
      have hrow0 := hrowi.congr (g := rowM (mt (pp x y i) y (wd x i) i 0) (pp x y i) (i + 0)) fun j _ => mul_start _ _ _ _ _
      go_loopw [8, 34] (fun c kk wr => ∃ k : Nat, k ≤ ln y ∧ kk = .int .i64 k ∧ c = .int .u64 (mc (pp x y i) y (wd x i) i k : Nat) ∧ wr.rowIs w.heap.size 95 (ln x + ln y) (rowM (mt (pp x y i) y (wd x i) i k) (pp x y i) (i + k)) ∧ Below w.heap.size w wr) (fun _ kk _ => ln y - (intOf kk).toNat)
      case atStart => exact ⟨0, Nat.zero_le _, rfl, by rw [mc_zero]; rfl, hrow0, hbeli⟩
      case round =>
        obtain ⟨k, hk, rfl, rfl, hrowk, hbelk⟩ := hrel
        clear hrow0 hrowi hbeli hxi
        have bc := mc_lt b1 (pp x y i) y i k
        by_cases hly : k < ln y
        · have hyk := (hbelk.cell (p := ⟨b', k, none⟩) hb').trans (HY.out k hly)
          have hst := hrowk.cell (i := i + k) (by omega)
          rw [rowM_at] at hst
          have hfr := hrowk.frozen (i + k)
          have b2 := wd_lt y k
          have b3 := wd_lt (pp x y i) (i + k)
          have b4 := prod_le b1 b2
          have b5 : 0 ≤ (wd x i : Int) * (wd y k : Int) := Int.mul_nonneg (by omega) (by omega)
          go_wp2
          have e1 := mt_word (pp x y i) y (wd x i) i k
          have e2 := mt_carry (pp x y i) y (wd x i) i k
          have e3 : ((wd x i * wd y k : Nat) : Int) = (wd x i : Int) * (wd y k : Int) := Int.natCast_mul _ _
          go_roundw
          case rel => exact ⟨k + 1, by omega, by go_num, int_val (by rw [e2]; omega), (hrowk.set _ _).congr fun j _ => mul_in (int_val (by rw [e1]; omega)), hbelk.setCell (by simp) _⟩
          case measure => simp [intOf]; omega
        · obtain rfl : k = ln y := by omega
          have hst := hrowk.cell (i := i + ln y) (by omega)
          have hfr := hrowk.frozen (i + ln y)
          go_wp2
          go_roundw
          case rel => exact ⟨i + 1, by omega, by go_num, (hrowk.set _ _).congr fun j _ => mul_out rfl, hbelk.setCell (by simp) _⟩
          case measure => simp [intOf]; omega
    · obtain rfl : i = ln x := by omega
      go_wp2_with fail
      refine (trim_any _ w.heap.size (ln x + ln y) (ln x + ln y) (x * y) (by omega) (by omega) hN fun j hj => by rw [hrowi.cell hj, pp_end]; rfl).mono ?_
      rintro e w' ⟨rfl, rfl⟩
      go_wp2
      go_ret
      exact ⟨_, rfl, Nat32.ofRow hrowi (ln_le hN) fun j hj => by rw [pp_end]; rfl, hbeli⟩
theorem retNat_nil {w w' : World} {n : Nat} (hn : n = 0) (h : Below w.heap.size w w') : RetNat w n (.returned (.slice none 0 0)) w' := by
  subst hn
  exact ⟨none, by rw [ln_zero], Nat32.zero _ _, h⟩
set_option maxHeartbeats 400000 in
/-- 'x.mul(y)'. -/
theorem mul_any (x y : Nat) (A B : Option Addr) (w : World) (hx : Nat32 w A x) (hy : Nat32 w B y) (hbx : ln x ≤ 35184372088832) (hby : ln y ≤ 35184372088832) :
    Calls Try.prog 37 #[.slice A (ln x) (ln x), .slice B (ln y) (ln y)] w (RetNat w (x * y)) := by
  by_cases hx0 : x = 0
  · have h := retNat_nil (w := w) (w' := w) (n := x * y) (by rw [hx0, Nat.zero_mul]) (Below.refl _ _)
    have t1 : ((ln x : Int) == 0) = true := by rw [hx0, ln_zero]; rfl
    have H := Lib.hid h
    clear h hx0
    go_enter Try.func37, Try.ntmps37
    go_wp2
    go_ret
    exact H.out
  · by_cases hy0 : y = 0
    · have h := retNat_nil (w := w) (w' := w) (n := x * y) (by rw [hy0, Nat.mul_zero]) (Below.refl _ _)
      have lx := ln_pos hx0
      have t1 : ((ln x : Int) == 0) = false := by simpa using fun e => by omega
      have t2 : ((ln y : Int) == 0) = true := by rw [hy0, ln_zero]; rfl
      have H := Lib.hid h
      clear h hx0 hy0
      go_enter Try.func37, Try.ntmps37
      go_wp2
      go_ret
      exact H.out
    · exact mul_pos x y A B w hx hy hbx hby hx0 hy0
end Go.Proofs.Ytdpjknjlhchmcaa

namespace Go.Proofs.Ytdpjknjlhchmcaa
open Go.RowKit Pl
/-- The words of x below i, times a power of two. -/
def sp (x q r i : Nat) : Nat := x % 4294967296 ^ i * 2 ^ (32 * q + r)
theorem sp_zero (x q r : Nat) : sp x q r 0 = 0 := by simp [sp, Nat.mod_one]
/-- A word, shifted. -/
def shw (x i r : Nat) : Nat := wd x i * 2 ^ r
theorem pow_r {r : Nat} (hr : r < 32) : 2 ^ r ≤ 2147483648 := Nat.pow_le_pow_right (n := 2) (by omega) (show r ≤ 31 by omega)
theorem shw_lt (x i : Nat) {r : Nat} (hr : r < 32) : shw x i r < 9223372036854775808 := by
  have h1 := wd_lt x i
  have h2 := pow_r hr
  have h3 : wd x i * 2 ^ r ≤ 4294967295 * 2147483648 := Nat.mul_le_mul (by omega) h2
  unfold shw; omega
theorem shw_wrap (x i : Nat) {r : Nat} (hr : r < 32) : IntKind.u64.wrap ((wd x i : Int) * 2 ^ r) = (shw x i r : Nat) := by
  have h := shw_lt x i hr
  have e : (wd x i : Int) * 2 ^ r = (shw x i r : Nat) := by unfold shw; simp
  rw [e, IntKind.wrap_u64]; omega
theorem sp_top (x q i r : Nat) : sp x q r i / 4294967296 ^ (i + q) < 2 ^ r :=
  (Nat.div_lt_iff_lt_mul (pow_pos' _)).2 (by rw [Nat.mul_comm]; exact shl_lt x q r i)
theorem sp_step (x q r i : Nat) : sp x q r (i + 1) = sp x q r i + 4294967296 ^ (i + q) * shw x i r := shl_step x q r i
theorem sp_or (x q i : Nat) {r : Nat} (hr : r < 32) : wd (sp x q r i) (i + q) ||| (shw x i r % 4294967296) = wd (sp x q r (i + 1)) (i + q) ∧ sp x q r i / 4294967296 ^ (i + q) + shw x i r % 4294967296 < 4294967296 := by
  have h1 := sp_top x q i r
  have h2 := pow_r hr
  have hB : 4294967296 = 2 ^ r * 2 ^ (32 - r) := by rw [← Nat.pow_add, show r + (32 - r) = 32 by omega]
  have h3 : wd (sp x q r i) (i + q) = sp x q r i / 4294967296 ^ (i + q) := by rw [wd, Nat.mod_eq_of_lt (by omega)]
  have h4 : shw x i r % 4294967296 % 2 ^ r = 0 := by
    rw [Nat.mod_mod_of_dvd _ ⟨2 ^ (32 - r), hB⟩]
    unfold shw; exact Nat.mul_mod_left _ _
  have h5 : sp x q r i / 4294967296 ^ (i + q) + shw x i r % 4294967296 < 4294967296 := by
    have h6 := Nat.div_add_mod (shw x i r % 4294967296) (2 ^ r)
    have h7 : shw x i r % 4294967296 / 2 ^ r < 2 ^ (32 - r) := (Nat.div_lt_iff_lt_mul (Nat.pow_pos (by omega))).2 (by rw [Nat.mul_comm, ← hB]; omega)
    have h8 : 2 ^ r * (shw x i r % 4294967296 / 2 ^ r + 1) ≤ 2 ^ r * 2 ^ (32 - r) := Nat.mul_le_mul_left _ h7
    rw [← hB, Nat.mul_add] at h8
    omega
  refine ⟨?_, h5⟩
  rw [h3, or_plus h1 h4, sp_step, wd_add_at]
  omega
theorem shl_or (x q i : Nat) {r : Nat} (hr : r < 32) : bits .or .u32 (wd (sp x q r i) (i + q) : Nat) ((shw x i r : Int) % 4294967296) = (wd (sp x q r (i + 1)) (i + q) : Nat) := by
  have e : (shw x i r : Int) % 4294967296 = ((shw x i r % 4294967296 : Nat) : Int) := by omega
  rw [e, u32_or_nat _ _ (wd_lt _ _) (by omega), (sp_or x q i hr).1]
theorem sp_above (x q i : Nat) {r : Nat} (hr : r < 32) : shw x i r / 4294967296 = wd (sp x q r (i + 1)) (i + q + 1) := by
  have h := (sp_or x q i hr).2
  have h1 := shw_lt x i hr
  rw [sp_step, wd, Nat.pow_succ, ← Nat.div_div_eq_div_mul, Nat.add_mul_div_left _ _ (pow_pos' _)]
  generalize sp x q r i / 4294967296 ^ (i + q) = a at *
  omega
theorem sp_low (x q r i j : Nat) (h : j < i + q) : wd (sp x q r (i + 1)) j = wd (sp x q r i) j := by rw [sp_step, wd_add_high _ _ _ _ h]
theorem sp_lt (x q i : Nat) {r : Nat} (hr : r < 32) : sp x q r i < 4294967296 ^ (i + q + 1) := by
  have h := sp_top x q i r
  have h2 := pow_r hr
  rw [Nat.pow_succ]
  have h3 := (Nat.div_lt_iff_lt_mul (pow_pos' (i + q))).1 h
  have h4 : 2 ^ r * 4294967296 ^ (i + q) ≤ 4294967296 * 4294967296 ^ (i + q) := Nat.mul_le_mul_right _ (by omega)
  rw [Nat.mul_comm 4294967296] at h4
  omega
theorem shl_row (x q i j : Nat) {r : Nat} (hr : r < 32) {v u : Value} (hv : v = .int .u32 (wd (sp x q r (i + 1)) (i + q + 1) : Nat)) (hu : u = .int .u32 (wd (sp x q r (i + 1)) (i + q) : Nat)) : (if j = i + q + 1 then v else if j = i + q then u else rowN (sp x q r i) j) = rowN (sp x q r (i + 1)) j := by
  unfold rowN
  by_cases h : j = i + q + 1
  · subst h; rw [if_pos rfl, hv]
  · rw [if_neg h]
    by_cases h2 : j = i + q
    · subst h2; rw [if_pos rfl, hu]
    · rw [if_neg h2]
      by_cases h3 : j < i + q
      · rw [sp_low _ _ _ _ _ h3]
      · rw [wd_top (sp_lt x q i hr) (by omega), wd_top (sp_lt x q (i + 1) hr) (by omega)]
set_option maxHeartbeats 1000000 in
theorem shl_pos (x n q r : Nat) (A : Option Addr) (w : World) (hx : Nat32 w A x) (hbx : ln x ≤ 35184372088832) (hn : n ≤ 1099511627776) (hx0 : x ≠ 0) (hn0 : n ≠ 0) (hnq : n = 32 * q + r) (hr : r < 32) :
    Calls Try.prog 74 #[.slice A (ln x) (ln x), .int .i64 (n : Nat)] w (RetNat w (x * 2 ^ n)) := by
  have hmk := mk_nat (ln x + q + 1) (by omega)
  have ec : ((ln x + q + 1 : Nat) : Int) = (ln x : Int) + (q : Int) + 1 := by omega
  rw [ec] at hmk
  clear ec
  have lx := ln_pos hx0
  have t1 : ((ln x : Int) == 0) = false := by simpa using fun e => by omega
  have t2 : ((n : Int) == 0) = false := by simpa using fun e => by omega
  have hq : (n : Int) / 32 = (q : Int) := by omega
  have hr' : (n : Int) % 32 = (r : Int) := by omega
  obtain ⟨b, rfl, hb, hcx⟩ := hx hx0
  have HX := Lib.hid hcx
  have HN := Lib.hid hnq
  clear hcx hnq
  go_enter Try.func74, Try.ntmps74
  go_wp2_with fail
  have hrow := (World.rowIs_made w (.int .u32 0) (ln x + q + 1) 95).congr (g := rowN (sp x q r 0)) fun j _ => by rw [sp_zero, rowN_zero]
  have hbel := (Below.refl w.heap.size w).alloc (Nat.le_refl _) (.cells (madeCells #[.int .u32 0] (ln x + q + 1)) 95)
  clear hq hr' t1 t2 hmk
  have hqb : q ≤ 1099511627776 := by have := HN.out; omega
  go_loopw [32] (fun i wr => ∃ k : Nat, k ≤ ln x ∧ i = .int .i64 k ∧ wr.rowIs w.heap.size 95 (ln x + q + 1) (rowN (sp x q r k)) ∧ Below w.heap.size w wr) (fun i _ => ln x - (intOf i).toNat)
  case atStart => exact ⟨0, Nat.zero_le _, rfl, hrow, hbel⟩
  case round =>
    obtain ⟨i, hi, rfl, hrowi, hbeli⟩ := hrel
    clear hrow hbel
    by_cases hlt : i < ln x
    · have hxi := (hbeli.cell (p := ⟨b, i, none⟩) hb).trans (HX.out i hlt)
      have b1 := wd_lt x i
      have hst := hrowi.cell (i := i + q) (by omega)
      have hfr := hrowi.frozen (i + q)
      have hst1 := hrowi.cell (i := i + q + 1) (by omega)
      have hfr1 := hrowi.frozen (i + q + 1)
      unfold rowN at hst hst1
      have hw : IntKind.u64.wrap ((wd x i : Int) * 2 ^ r) = (shw x i r : Nat) := shw_wrap x i hr
      have hwb := shw_lt x i hr
      have hor := shl_or x q i hr
      go_wp2
      go_roundw
      case rel => exact ⟨i + 1, by omega, by go_num, ((hrowi.set _ _).set _ _).congr fun j _ => shl_row x q i j hr (int_val (by rw [← sp_above x q i hr]; rfl)) rfl, (hbeli.setCell (by simp) _).setCell (by simp) _⟩
      case measure => simp [intOf]; omega
    · obtain rfl : i = ln x := by omega
      have e : sp x q r (ln x) = x * 2 ^ n := by rw [sp, Nat.mod_eq_of_lt (lt_ln x), HN.out]
      have hN : x * 2 ^ n < 4294967296 ^ (ln x + q + 1) := by rw [← e]; exact sp_lt x q (ln x) hr
      rw [e] at hrowi
      clear e
      go_wp2_with fail
      refine (trim_any _ w.heap.size (ln x + q + 1) (ln x + q + 1) (x * 2 ^ n) (by omega) (by omega) hN fun j hj => hrowi.cell hj).mono ?_
      rintro e w' ⟨rfl, rfl⟩
      go_wp2
      go_ret
      exact ⟨_, rfl, Nat32.ofRow hrowi (ln_le hN) fun j hj => rfl, hbeli⟩
set_option maxHeartbeats 400000 in
/-- 'x.shl(n)'. -/
theorem shl_any (x n : Nat) (A : Option Addr) (w : World) (hx : Nat32 w A x) (hbx : ln x ≤ 35184372088832) (hn : n ≤ 1099511627776) :
    Calls Try.prog 74 #[.slice A (ln x) (ln x), .int .i64 (n : Nat)] w (RetNat w (x * 2 ^ n)) := by
  by_cases hx0 : x = 0
  · have h : RetNat w (x * 2 ^ n) (.returned (.slice A (ln x) (ln x))) w := ⟨A, by rw [hx0, Nat.zero_mul], by rw [hx0, Nat.zero_mul]; exact Nat32.zero _ _, Below.refl _ _⟩
    have t1 : ((ln x : Int) == 0) = true := by rw [hx0, ln_zero]; rfl
    have H := Lib.hid h
    clear h hx0
    go_enter Try.func74, Try.ntmps74
    go_wp2
    go_ret
    exact H.out
  · by_cases hn0 : n = 0
    · have h : RetNat w (x * 2 ^ n) (.returned (.slice A (ln x) (ln x))) w := ⟨A, by rw [hn0, Nat.pow_zero, Nat.mul_one], by rw [hn0, Nat.pow_zero, Nat.mul_one]; exact hx, Below.refl _ _⟩
      have lx := ln_pos hx0
      have t1 : ((ln x : Int) == 0) = false := by simpa using fun e => by omega
      have t2 : ((n : Int) == 0) = true := by rw [hn0]; rfl
      have H := Lib.hid h
      clear h hx0 hn0
      go_enter Try.func74, Try.ntmps74
      go_wp2
      go_ret
      exact H.out
    · exact shl_pos x n (n / 32) (n % 32) A w hx hbx hn hx0 hn0 (by omega) (by omega)
end Go.Proofs.Ytdpjknjlhchmcaa

namespace Go.Proofs.Ytdpjknjlhchmcaa
open Go.RowKit Pl
/-- Two words, one above the other. -/
def tw (x i : Nat) : Nat := wd x i + 4294967296 * wd x (i + 1)
theorem tw_or (x i : Nat) : bits .or .u64 (wd x i : Nat) ((wd x (i + 1) : Int) * 4294967296) = (tw x i : Nat) := by
  have h1 := wd_lt x i
  have h2 := wd_lt x (i + 1)
  have e : (wd x (i + 1) : Int) * 4294967296 = ((4294967296 * wd x (i + 1) : Nat) : Int) := by omega
  rw [e, u64_or_nat _ _ (by omega) (by omega)]
  unfold tw
  rw [or_plus (r := 32) (by simpa using h1) (by simp)]
theorem tw_top {x i : Nat} (h : ln x ≤ i + 1) : tw x i = wd x i := by unfold tw; rw [wd_high h]; omega
theorem shr_wd (x q r n i : Nat) (hn : n = 32 * q + r) (hr : r < 32) : wd (x / 2 ^ n) i = tw x (i + q) / 2 ^ r % 4294967296 := by
  rw [hn, shr_word x q r i hr, tw]
theorem tw_lt (x i : Nat) : tw x i < 18446744073709551616 := by have h1 := wd_lt x i; have h2 := wd_lt x (i + 1); unfold tw; omega
theorem shr_lt {x q r n : Nat} (hn : n = 32 * q + r) (h : q ≤ ln x) : x / 2 ^ n < 4294967296 ^ (ln x - q) := by
  rw [Nat.div_lt_iff_lt_mul (Nat.pow_pos (by omega)), hn, Nat.pow_add, Nat.pow_mul]
  have h1 := lt_ln x
  have h2 : (4294967296 : Nat) ^ ln x = 4294967296 ^ (ln x - q) * (2 ^ 32) ^ q := by rw [show (2 ^ 32 : Nat) = 4294967296 by decide, ← Nat.pow_add]; congr 1; omega
  rw [h2] at h1
  have h3 : 4294967296 ^ (ln x - q) * (2 ^ 32) ^ q * 1 ≤ 4294967296 ^ (ln x - q) * (2 ^ 32) ^ q * 2 ^ r := Nat.mul_le_mul_left _ (Nat.pow_pos (by omega))
  rw [← Nat.mul_assoc]; omega
theorem shr_all {x q r n : Nat} (hn : n = 32 * q + r) (h : ln x ≤ q) : x / 2 ^ n = 0 := by
  apply Nat.div_eq_of_lt
  have h1 := lt_of_ln h
  rw [hn, Nat.pow_add, Nat.pow_mul, show (2 ^ 32 : Nat) = 4294967296 by decide]
  have h3 : 4294967296 ^ q * 1 ≤ 4294967296 ^ q * 2 ^ r := Nat.mul_le_mul_left _ (Nat.pow_pos (by omega))
  omega
theorem shr_val {x q r n i : Nat} (hn : n = 32 * q + r) (hr : r < 32) : (tw x (i + q) : Int) / 2 ^ r % 4294967296 = (wd (x / 2 ^ n) i : Nat) := by
  rw [shr_wd x q r n i hn hr]
  simp
set_option maxHeartbeats 1000000 in
theorem shr_pos (x n q r : Nat) (A : Option Addr) (w : World) (hx : Nat32 w A x) (hbx : ln x ≤ 35184372088832) (hn : n ≤ 1099511627776) (hnq : n = 32 * q + r) (hr : r < 32) (hql : q < ln x) :
    Calls Try.prog 76 #[.slice A (ln x) (ln x), .int .i64 (n : Nat)] w (RetNat w (x / 2 ^ n)) := by
  have hx0 : x ≠ 0 := fun e => by rw [e, ln_zero] at hql; omega
  have hmk := mk_nat (ln x - q) (by omega)
  have ec : ((ln x - q : Nat) : Int) = (ln x : Int) - (q : Int) := by omega
  rw [ec] at hmk
  have hN : x / 2 ^ n < 4294967296 ^ (ln x - q) := shr_lt hnq (by omega)
  have hq : (n : Int) / 32 = (q : Int) := by omega
  have hr' : (n : Int) % 32 = (r : Int) := by omega
  have ht : decide (ln x ≤ q) = false := by simpa using hql
  obtain ⟨b, rfl, hb, hcx⟩ := hx hx0
  have HX := Lib.hid hcx
  have HN := Lib.hid hnq
  have EC := Lib.hid ec
  clear hcx hnq ec
  go_enter Try.func76, Try.ntmps76
  go_wp2_with fail
  have hrow := (World.rowIs_made w (.int .u32 0) (ln x - q) 95).congr (g := part (x / 2 ^ n) 0) fun j _ => (part_zero _ _).symm
  have hbel := (Below.refl w.heap.size w).alloc (Nat.le_refl _) (.cells (madeCells #[.int .u32 0] (ln x - q)) 95)
  clear hq hr' hmk
  have hqb : q ≤ 1099511627776 := by have := HN.out; omega
  go_loopw [26] (fun i wr => ∃ k : Nat, k ≤ ln x - q ∧ i = .int .i64 k ∧ wr.rowIs w.heap.size 95 (ln x - q) (part (x / 2 ^ n) k) ∧ Below w.heap.size w wr) (fun i _ => ln x - q - (intOf i).toNat)
  case atStart => exact ⟨0, Nat.zero_le _, rfl, hrow, hbel⟩
  case round =>
    obtain ⟨k, hk, rfl, hrowk, hbelk⟩ := hrel
    clear hrow hbel
    by_cases hlt : k < ln x - q
    · have hxk := (hbelk.cell (p := ⟨b, k + q, none⟩) hb).trans (HX.out (k + q) (by omega))
      have hst := hrowk.cell (i := k) (by omega)
      have hfr := hrowk.frozen k
      have b1 := wd_lt x (k + q)
      by_cases hly : k + q + 1 < ln x
      · have hxk1 := (hbelk.cell (p := ⟨b, k + q + 1, none⟩) hb).trans (HX.out (k + q + 1) (by omega))
        have b2 := wd_lt x (k + q + 1)
        have hor := tw_or x (k + q)
        have b3 := tw_lt x (k + q)
        go_wp2
        go_roundw
        case rel => exact ⟨k + 1, by omega, by go_num, (hrowk.set _ _).congr fun j _ => part_step _ _ _ _ (int_val (shr_val HN.out hr)), hbelk.setCell (by simp) _⟩
        case measure => simp [intOf]; omega
      · have HT := Lib.hid (tw_top (x := x) (i := k + q) (by omega))
        go_wp2
        go_roundw
        case rel => exact ⟨k + 1, by omega, by go_num, (hrowk.set _ _).congr fun j _ => part_step _ _ _ _ (int_val (by rw [← shr_val HN.out hr, HT.out])), hbelk.setCell (by simp) _⟩
        case measure => simp [intOf]; omega
    · have HE := Lib.hid (show k = ln x - q by omega)
      go_wp2_with fail
      refine (trim_any _ w.heap.size (ln x - q) (ln x - q) (x / 2 ^ n) (by omega) (by omega) hN fun j hj => by rw [hrowk.cell hj, part_below (by have := HE.out; omega)]).mono ?_
      rintro e w' ⟨rfl, rfl⟩
      go_wp2
      go_ret
      exact ⟨_, rfl, Nat32.ofRow hrowk (ln_le hN) fun j hj => part_below (by have := ln_le hN; have := HE.out; omega), hbelk⟩
set_option maxHeartbeats 400000 in
/-- 'x.shr(n)'. -/
theorem shr_any (x n : Nat) (A : Option Addr) (w : World) (hx : Nat32 w A x) (hbx : ln x ≤ 35184372088832) (hn : n ≤ 1099511627776) :
    Calls Try.prog 76 #[.slice A (ln x) (ln x), .int .i64 (n : Nat)] w (RetNat w (x / 2 ^ n)) := by
  obtain ⟨q, r, hnq, hr⟩ : ∃ q r, n = 32 * q + r ∧ r < 32 := ⟨n / 32, n % 32, by omega, by omega⟩
  by_cases hql : q < ln x
  · exact shr_pos x n q r A w hx hbx hn hnq hr hql
  · have H := Lib.hid (retNat_nil (w := w) (w' := w) (shr_all (x := x) hnq (by omega)) (Below.refl _ _))
    have hq : (n : Int) / 32 = (q : Int) := by omega
    have hr' : (n : Int) % 32 = (r : Int) := by omega
    have hqb : q ≤ 1099511627776 := by omega
    clear hnq
    go_enter Try.func76, Try.ntmps76
    go_wp2
    go_ret
    exact H.out
end Go.Proofs.Ytdpjknjlhchmcaa

namespace Go.Proofs.Ytdpjknjlhchmcaa
open Go.RowKit Pl
theorem hl_or {h l : Nat} (hh : h < 4294967296) (hl : l < 4294967296) : bits .or .u64 ((h : Int) * 4294967296) (l : Nat) = ((h * 4294967296 + l : Nat) : Int) := by
  have e : (h : Int) * 4294967296 = ((h * 4294967296 : Nat) : Int) := by omega
  rw [e, u64_or_nat _ _ (by omega) (by omega), Nat.or_comm, or_plus (r := 32) (by simpa using hl) (by simp)]
  omega
/-- Two words as one number. -/
def hl (h l : Nat) : Nat := h * 4294967296 + l
def dq (h l y : Nat) : Nat := hl h l / y
def dr (h l y : Nat) : Nat := hl h l % y
theorem div32_any (h l y : Nat) (hh : h < y) (hl0 : l < 4294967296) (hy : y < 4294967296) (w : World) :
    Calls Try.prog 81 #[.int .u32 h, .int .u32 l, .int .u32 y] w fun e w' => e = .returned (.tuple #[.int .u32 (dq h l y : Nat), .int .u32 (dr h l y : Nat)]) ∧ Below w.heap.size w w' := by
  have hor := hl_or (h := h) (l := l) (by omega) hl0
  have t1 : ((y : Int) != 0) = true := by rw [bne_iff_ne]; omega
  have t2 : decide (y ≤ h) = false := by simpa using hh
  have e : ((h * 4294967296 + l : Nat) : Int) = (hl h l : Nat) := rfl
  have b1 : hl h l < 18446744073709551616 := by unfold hl; omega
  rw [e] at hor
  clear e
  go_enter Try.func81, Try.ntmps81
  go_wp2
  go_quiet (fail)
  go_wp2
  go_ret2
  have b2 : hl h l / y < 4294967296 := (Nat.div_lt_iff_lt_mul (by omega)).2 (by
    have : (h + 1) * 4294967296 ≤ y * 4294967296 := Nat.mul_le_mul_right _ hh
    unfold hl; rw [Nat.mul_comm 4294967296]; omega)
  have b3 : hl h l % y < y := Nat.mod_lt _ (by omega)
  have e1 : (hl h l : Int) / (y : Int) = ((hl h l / y : Nat) : Int) := (Int.natCast_ediv _ _).symm
  have e2 : (hl h l : Int) % (y : Int) = ((hl h l % y : Nat) : Int) := (Int.natCast_emod _ _).symm
  refine ⟨ret_two (int_val ?_) (int_val ?_), below_drewN (Below.refl _ _) _⟩
  · rw [e1, IntKind.wrap_u64]; unfold dq; generalize hl h l / y = z at *; omega
  · rw [e2]; unfold dr; generalize hl h l % y = z at *; omega
/-- What stands in the row when the words from k on are done. -/
def above (n k : Nat) (j : Nat) : Value := .int .u32 ((if k ≤ j then wd n j else 0 : Nat) : Int)
theorem above_all (n : Nat) {k j : Nat} (h : j < k) : above n k j = .int .u32 0 := by unfold above; rw [if_neg (by omega)]; rfl
theorem above_zero (n j : Nat) : above n 0 j = .int .u32 (wd n j : Nat) := by unfold above; rw [if_pos (by omega)]
theorem above_step {n k j : Nat} (hk : 0 < k) {v : Value} (hv : v = .int .u32 (wd n (k - 1) : Nat)) : (if j = k - 1 then v else above n k j) = above n (k - 1) j := by
  unfold above
  by_cases h : j = k - 1
  · subst h; rw [if_pos rfl, hv, if_pos (Nat.le_refl _)]
  · rw [if_neg h]
    by_cases h2 : k ≤ j
    · rw [if_pos h2, if_pos (by omega)]
    · rw [if_neg h2, if_neg (by omega)]
/-- The rest of what stands above word k. -/
def rs (x y k : Nat) : Nat := x / 4294967296 ^ k % y
theorem rs_top (x y : Nat) : rs x y (ln x) = 0 := by unfold rs; rw [Nat.div_eq_of_lt (lt_ln x), Nat.zero_mod]
theorem rs_zero (x y : Nat) : rs x y 0 = x % y := by simp [rs]
theorem rs_lt (x k : Nat) {y : Nat} (hy : 0 < y) : rs x y k < y := Nat.mod_lt _ hy
theorem rs_word {x y k : Nat} (hy : 0 < y) (hk : 0 < k) : dq (rs x y k) (wd x (k - 1)) y = wd (x / y) (k - 1) := by
  have h := short_word x y (k - 1) hy
  rw [show k - 1 + 1 = k by omega] at h
  exact h.symm
theorem rs_rest {x y k : Nat} (hk : 0 < k) : dr (rs x y k) (wd x (k - 1)) y = rs x y (k - 1) := by
  have h := short_rest x y (k - 1)
  rw [show k - 1 + 1 = k by omega] at h
  exact h.symm
/-- A call hands back a quotient in words and a rest. -/
def RetShort (w : World) (q r : Nat) (e : Ending) (w' : World) : Prop := ∃ A, e = .returned (.tuple #[.slice A (ln q) (ln q), .int .u32 (r : Nat)]) ∧ Nat32 w' A q ∧ Below w.heap.size w w'
set_option maxHeartbeats 1000000 in
/-- 'x.short(y)'. -/
theorem short_any (x y : Nat) (A : Option Addr) (w : World) (hx : Nat32 w A x) (hbx : ln x ≤ 35184372088832) (hy0 : 0 < y) (hy : y < 4294967296) :
    Calls Try.prog 72 #[.slice A (ln x) (ln x), .int .u32 (y : Nat)] w (RetShort w (x / y) (x % y)) := by
  have hmk := mk_nat (ln x) (by omega)
  have hN : x / y < 4294967296 ^ ln x := lt_of_ln (ln_mono (Nat.div_le_self _ _))
  go_enter Try.func72, Try.ntmps72
  go_wp2_with fail
  have hrow := (World.rowIs_made w (.int .u32 0) (ln x) 95).congr (g := above (x / y) (ln x)) fun j hj => (above_all _ hj).symm
  have hbel := (Below.refl w.heap.size w).alloc (Nat.le_refl _) (.cells (madeCells #[.int .u32 0] (ln x)) 95)
  clear hmk
  go_loopw [7, 8] (fun r i wr => ∃ k : Nat, k ≤ ln x ∧ i = .int .i64 ((k : Int) - 1) ∧ r = .int .u32 (rs x y k : Nat) ∧ wr.rowIs w.heap.size 95 (ln x) (above (x / y) k) ∧ Below w.heap.size w wr) (fun _ i _ => (intOf i + 1).toNat)
  case atStart => exact ⟨ln x, Nat.le_refl _, by go_num, by rw [rs_top]; rfl, hrow, hbel⟩
  case round =>
    obtain ⟨k, hk, rfl, rfl, hrowk, hbelk⟩ := hrel
    clear hrow hbel
    by_cases hk0 : 0 < k
    · have hx0 : x ≠ 0 := fun e => by rw [e, ln_zero] at hk; omega
      obtain ⟨b, rfl, hb, hcx⟩ := hx hx0
      have hxk := (hbelk.cell (p := ⟨b, k - 1, none⟩) hb).trans (hcx (k - 1) (by omega))
      have hst := hrowk.cell (i := k - 1) (by omega)
      have hfr := hrowk.frozen (k - 1)
      clear hcx
      go_wp2_with fail
      refine (div32_any (rs x y k) (wd x (k - 1)) y (rs_lt x k hy0) (wd_lt _ _) hy _).mono ?_
      rintro e w1 ⟨rfl, hb1⟩
      have hrow1 := hrowk.of_block (hb1.block _ hrowk.lt)
      have hst1 := hrow1.cell (i := k - 1) (by omega)
      have hfr1 := hrow1.frozen (k - 1)
      have hbel1 := hbelk.trans (hb1.mono hbelk.size)
      have HW := Lib.hid (rs_word (x := x) hy0 hk0)
      have HR := Lib.hid (rs_rest (x := x) (y := y) hk0)
      clear hst hfr hrowk hbelk hb1
      go_wp2
      go_roundw
      case rel => exact ⟨k - 1, by omega, by go_num, int_val (by rw [HR.out]), (hrow1.set _ _).congr fun j _ => above_step hk0 (int_val (by rw [HW.out])), hbel1.setCell (by simp) _⟩
      case measure => simp [intOf]; omega
    · obtain rfl : k = 0 := by omega
      have hR := rs_zero x y
      go_wp2_with fail
      refine (trim_any _ w.heap.size (ln x) (ln x) (x / y) (by omega) (by omega) hN fun j hj => by rw [hrowk.cell hj, above_zero]).mono ?_
      rintro e w' ⟨rfl, rfl⟩
      go_wp2
      go_ret2
      exact ⟨_, rfl, Nat32.ofRow hrowk (ln_le hN) fun j hj => above_zero _ _, hbelk⟩
end Go.Proofs.Ytdpjknjlhchmcaa

namespace Go.Proofs.Ytdpjknjlhchmcaa
namespace Pl
section
variable {p V V2 W W2 vt vs top us : Nat}
/-- The first guess is not below the word. -/
theorem kd_ge (hV : V = (vt * 4294967296 + vs) * p + V2) (hW : W = (top * 4294967296 + us) * p + W2) (hW2 : W2 < p) (hus : us < 4294967296) (hvt : 0 < vt)
    {q : Nat} (hq : q * V ≤ W) : q ≤ top / vt := by
  rw [Nat.le_div_iff_mul_le hvt]
  rcases Nat.lt_or_ge top (q * vt) with h | h
  · exfalso
    have h2 : (top * 4294967296 + us + 1) * p ≤ (q * vt * 4294967296) * p := Nat.mul_le_mul_right p (by omega)
    have h3 : q * V = (q * vt * 4294967296) * p + (q * vs * p + q * V2) := by
      rw [hV, Nat.mul_add, ← Nat.mul_assoc q _ p, Nat.mul_add, Nat.add_mul, ← Nat.mul_assoc q vt]
      omega
    have h4 : (top * 4294967296 + us + 1) * p = (top * 4294967296 + us) * p + p := by rw [Nat.add_mul _ 1 p, Nat.one_mul]
    omega
  · exact h
/-- A step down from a guess that is too great. -/
theorem kd_dec (hV : V = (vt * 4294967296 + vs) * p + V2) (hW : W = (top * 4294967296 + us) * p + W2) (hW2 : W2 < p)
    (hWV : W < V * 4294967296) {guess rest q : Nat} (hg : guess * vt + rest = top)
    (h : 4294967296 ≤ guess ∨ rest * 4294967296 + us < guess * vs) (hq : q * V ≤ W) (hle : q ≤ guess) : q < guess := by
  rcases h with h | h
  · have h1 : q * V < 4294967296 * V := by rw [Nat.mul_comm 4294967296 V]; omega
    have h2 := Nat.lt_of_mul_lt_mul_right h1
    omega
  · rcases Nat.lt_or_ge q guess with h1 | h1
    · exact h1
    · exfalso
      have e : q = guess := Nat.le_antisymm hle h1
      subst e
      have h2 : top * 4294967296 + us + 1 ≤ q * (vt * 4294967296 + vs) := by
        rw [← hg, Nat.mul_add, ← Nat.mul_assoc]; omega
      have h3 := Nat.mul_le_mul_right p h2
      have h4 : q * V = q * (vt * 4294967296 + vs) * p + q * V2 := by rw [hV, Nat.mul_add, ← Nat.mul_assoc]
      have h5 : (top * 4294967296 + us + 1) * p = (top * 4294967296 + us) * p + p := by rw [Nat.add_mul _ 1 p, Nat.one_mul]
      omega
/-- The way out by the rest: the guess is a word, and its product is not above the dividend. -/
theorem kd_out (hV : V = (vt * 4294967296 + vs) * p + V2) (hV2 : V2 < p) (hvs : vs < 4294967296) (hW : W = (top * 4294967296 + us) * p + W2)
    (hWV : W < V * 4294967296) {guess rest : Nat} (hg : guess * vt + rest = top) (hr : 4294967296 ≤ rest) : guess < 4294967296 ∧ guess * V ≤ W := by
  have hp : 0 < p := by omega
  have h0 : V < (vt + 1) * 4294967296 * p := by
    have : (vt * 4294967296 + vs + 1) * p ≤ (vt + 1) * 4294967296 * p := Nat.mul_le_mul_right p (by omega)
    have h5 : (vt * 4294967296 + vs + 1) * p = (vt * 4294967296 + vs) * p + p := by rw [Nat.add_mul _ 1 p, Nat.one_mul]
    omega
  have hlt : guess < 4294967296 := by
    have h1 : V * 4294967296 < (vt + 1) * 4294967296 * p * 4294967296 := Nat.mul_lt_mul_of_pos_right h0 (by omega)
    have h2 : top * 4294967296 * p ≤ W := by
      have : top * 4294967296 * p ≤ (top * 4294967296 + us) * p := Nat.mul_le_mul_right p (by omega)
      omega
    have h3 : top * 4294967296 * p < (vt + 1) * 4294967296 * 4294967296 * p := by
      have : (vt + 1) * 4294967296 * p * 4294967296 = (vt + 1) * 4294967296 * 4294967296 * p := Nat.mul_right_comm _ _ _
      omega
    have h4 : top * 4294967296 < (vt + 1) * 4294967296 * 4294967296 := Nat.lt_of_mul_lt_mul_right h3
    have h5 : guess * vt < vt * 4294967296 := by omega
    rw [Nat.mul_comm vt] at h5
    exact Nat.lt_of_mul_lt_mul_right h5
  refine ⟨hlt, ?_⟩
  have h1 : guess * V ≤ guess * ((vt * 4294967296 + vs) * p + p) := Nat.mul_le_mul_left _ (by omega)
  have h2 : guess * ((vt * 4294967296 + vs) * p + p) = (guess * vt * 4294967296 + guess * vs + guess) * p := by
    rw [Nat.mul_add, ← Nat.mul_assoc, Nat.mul_add, ← Nat.mul_assoc guess vt, ← Nat.add_mul]
  have h3 : guess * vs + guess ≤ 4294967296 * 4294967296 := by
    have : guess * (vs + 1) ≤ 4294967296 * 4294967296 := Nat.mul_le_mul (by omega) (by omega)
    rw [Nat.mul_add] at this; omega
  have h4 : (guess * vt * 4294967296 + guess * vs + guess) * p ≤ (top * 4294967296 + us) * p := Nat.mul_le_mul_right p (by omega)
  omega
/-- The way out by the test: the guess is the word or one more. -/
theorem kd_fit (hV : V = (vt * 4294967296 + vs) * p + V2) (hV2 : V2 < p) (hvt : 1 ≤ vt) (hW : W = (top * 4294967296 + us) * p + W2)
    {guess rest : Nat} (hg : guess * vt + rest = top) (hlt : guess < 4294967296) (h : guess * vs ≤ rest * 4294967296 + us) : guess * V < W + V := by
  have h1 : guess * V = (guess * vt * 4294967296 + guess * vs) * p + guess * V2 := by
    rw [hV, Nat.mul_add, ← Nat.mul_assoc, Nat.mul_add, ← Nat.mul_assoc guess vt]
  have h2 : (guess * vt * 4294967296 + guess * vs) * p ≤ (top * 4294967296 + us) * p := Nat.mul_le_mul_right p (by omega)
  have h3 : guess * V2 ≤ 4294967296 * V2 := Nat.mul_le_mul_right _ (by omega)
  have h4 : 4294967296 * p ≤ (vt * 4294967296 + vs) * p := Nat.mul_le_mul_right p (by omega)
  omega
end
/-- A guess that is the word or one more, and whether it was one too great. -/
theorem kd_word {V W guess q : Nat} (hle : q ≤ guess) (hq2 : W < (q + 1) * V) (hf : guess * V < W + V) : guess = q ∨ guess = q + 1 := by
  have h1 : (q + 1) * V = q * V + V := by rw [Nat.add_mul, Nat.one_mul]
  have h2 : guess * V < (q + 2) * V := by
    have : (q + 2) * V = q * V + V + V := by rw [Nat.add_mul]; omega
    omega
  have h3 := Nat.lt_of_mul_lt_mul_right h2
  omega
end Pl
end Go.Proofs.Ytdpjknjlhchmcaa

namespace Go.Proofs.Ytdpjknjlhchmcaa
open Go.RowKit Pl
/-- The words of u, those from j on below j + k in the place of d's. -/
def seg (u d j k i : Nat) : Value := .int .u32 ((if j ≤ i ∧ i < j + k then wd d (i - j) else wd u i : Nat) : Int)
theorem seg_zero (u d j i : Nat) : rowN u i = seg u d j 0 i := by unfold seg rowN; rw [if_neg (by omega)]
theorem seg_at (u d j k : Nat) : seg u d j k (k + j) = .int .u32 (wd u (k + j) : Nat) := by unfold seg; rw [if_neg (by omega)]
theorem seg_step {u d j k i : Nat} {v : Value} (hv : v = .int .u32 (wd d k : Nat)) : (if i = k + j then v else seg u d j k i) = seg u d j (k + 1) i := by
  unfold seg
  by_cases h : i = k + j
  · subst h; rw [if_pos rfl, hv, if_pos (by omega), show k + j - j = k by omega]
  · rw [if_neg h]
    by_cases h2 : j ≤ i ∧ i < j + k
    · rw [if_pos h2, if_pos (by omega)]
    · rw [if_neg h2, if_neg (by omega)]
/-- The carry out of the words of q V below k. -/
def qc (q V k : Nat) : Nat := q * (V % 4294967296 ^ k) / 4294967296 ^ k
theorem qc_zero (q V : Nat) : qc q V 0 = 0 := by simp [qc, Nat.mod_one]
theorem qc_lt {q V k : Nat} (hq : q < 4294967296) : qc q V k < 4294967296 := by
  unfold qc
  rw [Nat.div_lt_iff_lt_mul (pow_pos' k)]
  have h1 := Nat.mod_lt V (pow_pos' k)
  have h2 : q * (V % 4294967296 ^ k) ≤ 4294967295 * (V % 4294967296 ^ k) := Nat.mul_le_mul_right _ (by omega)
  have h3 : 4294967295 * (V % 4294967296 ^ k) ≤ 4294967295 * 4294967296 ^ k := Nat.mul_le_mul_left _ (by omega)
  have h4 := pow_pos' k
  omega
/-- One product with the carry that came in. -/
def qp (q V k : Nat) : Nat := q * wd V k + qc q V k
theorem qp_div (q V k : Nat) : qp q V k / 4294967296 = qc q V (k + 1) := by
  unfold qp qc
  rw [mod_succ, Nat.mul_add, Nat.pow_succ, ← Nat.div_div_eq_div_mul, show q * (4294967296 ^ k * wd V k) = 4294967296 ^ k * (q * wd V k) by rw [Nat.mul_left_comm], Nat.add_mul_div_left _ _ (pow_pos' k), Nat.add_comm]
theorem qp_mod (q V k : Nat) : qp q V k % 4294967296 = wd (q * V) k := by
  have h1 : q * V / 4294967296 ^ k = q * (V / 4294967296 ^ k) + qc q V k := by
    unfold qc
    conv => lhs; rw [← Nat.div_add_mod V (4294967296 ^ k)]
    rw [Nat.mul_add, show q * (4294967296 ^ k * (V / 4294967296 ^ k)) = 4294967296 ^ k * (q * (V / 4294967296 ^ k)) by rw [Nat.mul_left_comm], Nat.mul_add_div (pow_pos' k)]
  unfold qp wd
  rw [h1]
  conv => lhs; rw [Nat.add_mod, Nat.mul_mod, Nat.mod_mod]
  conv => rhs; rw [Nat.add_mod, Nat.mul_mod]
theorem qc_end {q V n : Nat} (hV : V < 4294967296 ^ n) : qc q V n = q * V / 4294967296 ^ n := by unfold qc; rw [Nat.mod_eq_of_lt hV]
/-- The difference, over the base. -/
def tk (W X n : Nat) : Nat := W + 4294967296 ^ (n + 1) - X
theorem tk_word {W X n k : Nat} (hk : k ≤ n) (hX : X ≤ W + 4294967296 ^ (n + 1)) : (wd W k + 8589934592 - wd X k - sb W X k) % 4294967296 = wd (tk W X n) k := by
  have e : 4294967296 ^ (n + 1) = 4294967296 ^ k * 4294967296 * 4294967296 ^ (n - k) := by
    rw [← Nat.pow_succ, ← Nat.pow_add]; congr 1; omega
  have h := sub_word (X := W) (Y := X) (pow_pos' k) (4294967296 ^ (n - k)) (by rw [← e]; exact hX)
  unfold tk wd sb
  rw [e]
  exact h
theorem grown_set {a w : World} {g : Nat} (h : a.grownBy w (some g)) {p : Addr} (hp : p.block = g) (u : Value) : a.grownBy (w.setCell p u) (some g) :=
  ⟨h.os, h.tape, h.output, by simpa [World.setCell] using h.size, fun i hi hne => (Below.heap_setCell w p u i (by
    rintro rfl
    exact hne (by rw [hp]))).trans (h.block i hi hne)⟩
theorem grown_cell {a w : World} {g : Nat} (h : a.grownBy w (some g)) {b i : Nat} (hb : b < a.heap.size) (hne : b ≠ g) : w.cell? ⟨b, i, none⟩ = a.cell? ⟨b, i, none⟩ :=
  World.cell?_of_block (h.block b hb (fun e => hne (by injection e)))
/-- One word of a difference, as the program reckons it in 64 bits. -/
theorem t64 {a b c : Nat} (ha : a < 4294967296) (hb : b < 4294967296) (hc : c ≤ 1) : (IntKind.u64.wrap (IntKind.u64.wrap ((a : Int) - (b : Int)) - (c : Int))) % 4294967296 = (((a + 8589934592 - b - c) % 4294967296 : Nat) : Int) ∧
    (IntKind.u64.wrap (IntKind.u64.wrap ((a : Int) - (b : Int)) - (c : Int))) / 9223372036854775808 = (bw a b c : Nat) := by
  rw [IntKind.wrap_u64, IntKind.wrap_u64]
  unfold bw
  constructor
  · omega
  · split <;> omega
theorem qp_lo {q V X k : Nat} (h : X = q * V) : ((q : Int) * (wd V k : Int) + (qc q V k : Int)) % 4294967296 = (wd X k : Nat) := by
  have := qp_mod q V k
  have e : ((qp q V k : Nat) : Int) = (q : Int) * (wd V k : Int) + (qc q V k : Int) := by unfold qp; rw [Int.natCast_add, Int.natCast_mul]
  rw [← e, h]; omega
theorem qp_hi (q V k : Nat) : ((q : Int) * (wd V k : Int) + (qc q V k : Int)) / 4294967296 = (qc q V (k + 1) : Nat) := by
  have := qp_div q V k
  have e : ((qp q V k : Nat) : Int) = (q : Int) * (wd V k : Int) + (qc q V k : Int) := by unfold qp; rw [Int.natCast_add, Int.natCast_mul]
  rw [← e]; omega
theorem sb_last {W X n : Nat} (hW : W < 4294967296 ^ (n + 1)) (hX : X < 4294967296 ^ (n + 1)) : sb W X (n + 1) = if W < X then 1 else 0 := by
  unfold sb bor
  rw [Nat.mod_eq_of_lt hW, Nat.mod_eq_of_lt hX]
set_option maxHeartbeats 1000000 in
theorem take_any (w : World) (g m n j U V q : Nat) (B : Option Addr) (hm : m ≤ 70368744177664) (hjn : j + n < m) (hn : n = ln V) (hq : q < 4294967296) (hrow : w.rowIs g 95 m (rowN U))
    (hv : Nat32 w B V) (hne : B ≠ some ⟨g, 0, none⟩) (hU : U < 4294967296 ^ (j + n + 1)) :
    Calls Try.prog 75 #[.slice (some ⟨g, 0, none⟩) m m, .slice B n n, .int .u64 (q : Nat), .int .i64 (j : Nat)] w fun e w' =>
      e = .returned (.bool (decide (U / 4294967296 ^ j < q * V))) ∧ w'.rowIs g 95 m (seg U (tk (U / 4294967296 ^ j) (q * V) n) j (n + 1)) ∧ w.grownBy w' (some g) := by
  have hVn : V < 4294967296 ^ n := by rw [hn]; exact lt_ln V
  have hX : q * V < 4294967296 ^ (n + 1) := by
    rw [Nat.pow_succ]
    have h1 : q * V ≤ 4294967296 * V := Nat.mul_le_mul_right _ (by omega)
    omega
  have HV := Lib.hid hn
  obtain ⟨X, hXe⟩ : ∃ X, X = q * V := ⟨_, rfl⟩
  obtain ⟨W, hWe⟩ : ∃ W, W = U / 4294967296 ^ j := ⟨_, rfl⟩
  rw [← hXe] at hX
  rw [← hXe, ← hWe]
  have HX := Lib.hid hXe
  have HW := Lib.hid hWe
  clear hn hXe hWe
  have hWn : W < 4294967296 ^ (n + 1) := by
    rw [HW.out, Nat.div_lt_iff_lt_mul (pow_pos' j), ← Nat.pow_add, show n + 1 + j = j + n + 1 by omega]; exact hU
  have hwd : ∀ k, wd W k = wd U (k + j) := fun k => by rw [HW.out, wd_div, Nat.add_comm]
  have HD := Lib.hid hwd
  clear hwd
  go_enter Try.func75, Try.ntmps75
  go_wp2_with fail
  go_loopw [9, 10, 18] (fun c b i wr => ∃ k : Nat, k ≤ n ∧ i = .int .i64 k ∧ c = .int .u64 (qc q V k : Nat) ∧ b = .int .u64 (sb W X k : Nat) ∧ wr.rowIs g 95 m (seg U (tk W X n) j k) ∧ w.grownBy wr (some g)) (fun _ _ i _ => n - (intOf i).toNat)
  case atStart => exact ⟨0, Nat.zero_le _, rfl, by rw [qc_zero]; rfl, by rw [sb_zero]; rfl, hrow.congr fun i _ => seg_zero _ _ _ _, World.grownBy.refl _ _⟩
  case round =>
    obtain ⟨k, hk, rfl, rfl, rfl, hrowk, hgk⟩ := hrel
    have c1 := qc_lt (V := V) (k := k) hq
    have c2 := sb_le W X k
    by_cases hlt : k < n
    · have hV0 : V ≠ 0 := fun e => by have := HV.out; rw [e, ln_zero] at this; omega
      obtain ⟨b, rfl, hb, hcv⟩ := hv hV0
      have hbg : b ≠ g := fun e => hne (by rw [e])
      have hvk := (grown_cell hgk (i := k) hb hbg).trans (hcv k (by have := HV.out; omega))
      have hst := hrowk.cell (i := k + j) (by omega)
      rw [seg_at] at hst
      have hfr := hrowk.frozen (k + j)
      have b1 := wd_lt V k
      have b2 := wd_lt U (k + j)
      have b3 := prod_le hq b1
      have b4 : 0 ≤ (q : Int) * (wd V k : Int) := Int.mul_nonneg (by omega) (by omega)
      clear hcv
      have hX2 : X ≤ W + 4294967296 ^ (n + 1) := by omega
      have H1 := Lib.hid (qp_lo (k := k) HX.out)
      have H2 := Lib.hid (qp_hi q V k)
      have H3 := Lib.hid (t64 (wd_lt W k) (wd_lt X k) (sb_le W X k))
      rw [HD.out k] at H3
      have H4 := Lib.hid (tk_word (k := k) (by omega) hX2)
      have H5 := Lib.hid (sb_step W X k)
      rw [HD.out k] at H4 H5
      go_wp2
      go_roundw
      case rel => exact ⟨k + 1, by omega, by go_num, int_val (by rw [H2.out]), int_val (by rw [H1.out, H3.out.2, H5.out]), (hrowk.set _ _).congr fun i _ => seg_step (int_val (by rw [H1.out, H3.out.1, H4.out])), grown_set hgk rfl _⟩
      case measure => simp [intOf]; omega
    · obtain rfl : k = n := by omega
      have hst := hrowk.cell (i := k + j) (by omega)
      rw [seg_at, Nat.add_comm k j] at hst
      have hfr := hrowk.frozen (j + k)
      have b2 := wd_lt U (j + k)
      have hX2 : X ≤ W + 4294967296 ^ (k + 1) := by omega
      have H0 := Lib.hid (show qc q V k = wd X k by rw [qc_end hVn, lin_top hX, HX.out])
      have H3 := Lib.hid (t64 (wd_lt W k) (wd_lt X k) (sb_le W X k))
      rw [HD.out k, Nat.add_comm k j] at H3
      have H4 := Lib.hid (tk_word (k := k) (by omega) hX2)
      have H5 := Lib.hid (sb_step W X k)
      rw [HD.out k, Nat.add_comm k j] at H4 H5
      have H6 := Lib.hid (sb_last hWn hX)
      go_wp2
      go_ret
      have hv1 := H3.out.1
      have hv2 := H3.out.2
      rw [H4.out, ← H0.out] at hv1
      rw [← H0.out] at hv2
      refine ⟨ret_bool ?_, (hrowk.set _ _).congr fun i _ => ?_, grown_set hgk rfl _⟩
      · rw [hv2, H0.out, H5.out, H6.out]
        by_cases h : W < X
        · rw [if_pos h, decide_eq_true h]; rfl
        · rw [if_neg h, decide_eq_false h]; rfl
      · rw [show Value.int IntKind.u32 _ = Value.int .u32 (wd (tk W X k) k : Nat) from int_val hv1, Nat.add_comm j k]
        exact seg_step rfl
end Go.Proofs.Ytdpjknjlhchmcaa

namespace Go.Proofs.Ytdpjknjlhchmcaa
open Go.RowKit Pl
set_option linter.unusedVariables false
/-- The shift that sets the highest bit of the highest word. -/
def lz (y : Nat) : Nat := 32 - Lib.bitLen (wd y (ln y - 1))
theorem lz_bounds {t : Nat} (ht : t ≠ 0) (hb : t < 4294967296) : Lib.bitLen t ≤ 32 ∧ 1 ≤ Lib.bitLen t ∧ 2147483648 ≤ t * 2 ^ (32 - Lib.bitLen t) ∧ (t + 1) * 2 ^ (32 - Lib.bitLen t) ≤ 4294967296 := by
  have h := Lib.bitLenAux_bounds 64 t (Nat.lt_trans hb (by decide)) ht
  have h32 : Lib.bitLen t ≤ 32 := Lib.bitLen_le t 32 (by omega) hb
  obtain ⟨h1, h2, h3⟩ := h
  have e : Lib.bitLenAux 64 t = Lib.bitLen t := rfl
  rw [e] at h1 h2 h3
  refine ⟨h32, h1, ?_, ?_⟩
  · have a := Nat.mul_le_mul_right (2 ^ (32 - Lib.bitLen t)) h2
    rw [← Nat.pow_add, show Lib.bitLen t - 1 + (32 - Lib.bitLen t) = 31 by omega] at a
    exact a
  · have a := Nat.mul_le_mul_right (2 ^ (32 - Lib.bitLen t)) (show t + 1 ≤ 2 ^ Lib.bitLen t from h3)
    rw [← Nat.pow_add, show Lib.bitLen t + (32 - Lib.bitLen t) = 32 by omega] at a
    exact a
theorem lz_le (y : Nat) (hy : y ≠ 0) : lz y ≤ 31 := by
  have h := lz_bounds (wd_last hy) (wd_lt _ _)
  unfold lz; omega
theorem top_word {y : Nat} (hy : y ≠ 0) : wd y (ln y - 1) = y / 4294967296 ^ (ln y - 1) := by
  have h := lt_ln y
  have h2 := ln_pos hy
  apply lin_top
  rw [show ln y - 1 + 1 = ln y by omega]; exact h
/-- The divisor, shifted: as long as before, its highest bit is set. -/
theorem norm_y {y : Nat} (hy : y ≠ 0) : y * 2 ^ lz y < 4294967296 ^ ln y ∧ 2147483648 * 4294967296 ^ (ln y - 1) ≤ y * 2 ^ lz y := by
  have h := lz_bounds (wd_last hy) (wd_lt _ _)
  have e := top_word hy
  have h2 := ln_pos hy
  have hp := pow_pos' (ln y - 1)
  have d1 := Nat.div_mul_le_self y (4294967296 ^ (ln y - 1))
  have d2 := Nat.lt_div_mul_add (a := y) hp
  have eL : (4294967296 : Nat) ^ ln y = 4294967296 * 4294967296 ^ (ln y - 1) := by
    conv => lhs; rw [show ln y = ln y - 1 + 1 by omega, Nat.pow_succ]
    rw [Nat.mul_comm]
  unfold lz
  rw [← e] at d1 d2
  generalize wd y (ln y - 1) = t at *
  generalize 4294967296 ^ (ln y - 1) = p at *
  rw [eL]
  generalize 2 ^ (32 - Lib.bitLen t) = z at *
  obtain ⟨_, _, a, b⟩ := h
  constructor
  · have c : y * z < (t + 1) * z * p := by
      have c1 : y + 1 ≤ (t + 1) * p := by rw [Nat.add_mul, Nat.one_mul]; omega
      have c2 := Nat.mul_le_mul_right z c1
      rw [Nat.add_mul, Nat.one_mul, Nat.mul_right_comm] at c2
      have hz : 0 < z := by
        rcases Nat.eq_zero_or_pos z with h0 | h0
        · rw [h0] at a; simp at a
        · exact h0
      omega
    exact Nat.lt_of_lt_of_le c (Nat.mul_le_mul_right p b)
  · have c := Nat.mul_le_mul_right p a
    have c2 := Nat.mul_le_mul_right z d1
    rw [Nat.mul_right_comm] at c2
    omega
/-- What is left of u when the words of the quotient from j on are done. -/
def ur (u V j : Nat) : Nat := u % (V * 4294967296 ^ j)
theorem ur_step {u V j : Nat} (hV : 0 < V) :
    ur u V (j + 1) / 4294967296 ^ j / V = wd (u / V) j ∧ ur u V (j + 1) / 4294967296 ^ j < V * 4294967296 ∧
    ur u V j / 4294967296 ^ j = ur u V (j + 1) / 4294967296 ^ j % V ∧ ur u V j % 4294967296 ^ j = ur u V (j + 1) % 4294967296 ^ j := by
  have hp := pow_pos' j
  have hVp : 0 < V * 4294967296 ^ j := Nat.mul_pos hV hp
  have e : V * 4294967296 ^ (j + 1) = V * 4294967296 ^ j * 4294967296 := by rw [Nat.pow_succ, ← Nat.mul_assoc]
  have e1 : ur u V (j + 1) = u % (V * 4294967296 ^ j) + V * 4294967296 ^ j * (u / (V * 4294967296 ^ j) % 4294967296) := by
    unfold ur; rw [e, Nat.mod_mul]
  have e2 : ur u V (j + 1) / 4294967296 ^ j = u % (V * 4294967296 ^ j) / 4294967296 ^ j + V * (u / (V * 4294967296 ^ j) % 4294967296) := by
    rw [e1, show V * 4294967296 ^ j * (u / (V * 4294967296 ^ j) % 4294967296) = 4294967296 ^ j * (V * (u / (V * 4294967296 ^ j) % 4294967296)) by rw [Nat.mul_comm V, Nat.mul_assoc], Nat.add_mul_div_left _ _ hp]
  have e3 : u % (V * 4294967296 ^ j) / 4294967296 ^ j < V := by
    rw [Nat.div_lt_iff_lt_mul hp]; exact Nat.mod_lt _ hVp
  refine ⟨?_, ?_, ?_, ?_⟩
  · rw [e2, Nat.add_mul_div_left _ _ hV, Nat.div_eq_of_lt e3, Nat.zero_add, wd, Nat.div_div_eq_div_mul]
  · rw [e2]
    have h := Nat.mod_lt (u / (V * 4294967296 ^ j)) (show 0 < 4294967296 by omega)
    have h2 := Nat.mul_le_mul_left V (show u / (V * 4294967296 ^ j) % 4294967296 + 1 ≤ 4294967296 by omega)
    rw [Nat.mul_add, Nat.mul_one] at h2
    omega
  · rw [e2, Nat.add_mul_mod_self_left, Nat.mod_eq_of_lt e3]; rfl
  · rw [e1, show V * 4294967296 ^ j * (u / (V * 4294967296 ^ j) % 4294967296) = 4294967296 ^ j * (V * (u / (V * 4294967296 ^ j) % 4294967296)) by rw [Nat.mul_comm V, Nat.mul_assoc], Nat.add_mul_mod_self_left]; rfl
theorem ur_zero (u V : Nat) : ur u V 0 = u % V := by simp [ur]
/-- The dividend is below the divisor times the base to the number of the quotient's words. -/
theorem ur_top {x y : Nat} (hy : y ≠ 0) (hl : ln y ≤ ln x) : x * 2 ^ lz y < y * 2 ^ lz y * 4294967296 ^ (ln x + 1 - ln y) := by
  have h1 := norm_y hy
  have h2 := lt_ln x
  have h3 := lz_le y hy
  have h4 : 2 ^ lz y ≤ 2147483648 := Nat.pow_le_pow_right (n := 2) (by omega) (show lz y ≤ 31 from h3)
  have h5 := ln_pos hy
  have e : (4294967296 : Nat) ^ ln x = 4294967296 ^ (ln y - 1) * 4294967296 ^ (ln x + 1 - ln y) := by rw [← Nat.pow_add]; congr 1; omega
  have h6 : x * 2 ^ lz y < 4294967296 ^ ln x * 2147483648 := Nat.lt_of_lt_of_le (Nat.mul_lt_mul_of_pos_right h2 (Nat.pow_pos (by omega))) (Nat.mul_le_mul_left _ h4)
  have h7 := Nat.mul_le_mul_right (4294967296 ^ (ln x + 1 - ln y)) h1.2
  rw [Nat.mul_assoc, ← e, Nat.mul_comm 2147483648] at h7
  omega
theorem ur_all {u V j : Nat} (h : u < V * 4294967296 ^ j) : ur u V j = u := Nat.mod_eq_of_lt h
section
variable {P : Program}
/-- copy(u, v): the words of n are laid into a row of zeros. -/
theorem wpList_copy_words {w : World} {ops : Array Oper} {rest : List Oper} {o : Oper} {a : Act} {Q : Exit → Act → World → Prop} (hgd : o.guard = none) (d s : Operand) (dT sT : TypeId)
    (ho : o.op = .call { callee := .builtin .copy, args := #[d, s], argTypes := #[dT, sT] }) (elem : TypeId) (hu : P.underlying dT = some (.slice elem)) (hsz : (P.info? elem).map (·.size) = some 1)
    (g m n c : Nat) (A : Option Addr) (hd : a.eval d = .slice (some ⟨g, 0, none⟩) m m) (hs : a.eval s = .slice A (ln n) c)
    (hrow : w.rowIs g elem m (rowN 0)) (hA : Nat32 w A n) (hnm : ln n ≤ m)
    (h : ∀ w', w'.rowIs g elem m (rowN n) → w.grownBy w' (some g) → wpList P ops Q rest (a.put o.dst (goInt (ln n))) w') : wpList P ops Q (o :: rest) a w := by
  by_cases hn : n = 0
  · subst hn
    rw [ln_zero] at *
    exact wpList_copy_nothing hgd d s dT sT ho elem hu hsz _ _ _ _ _ _ hd hs (by simp) (h w hrow (World.grownBy.refl _ _))
  · obtain ⟨b, rfl, hb, hc⟩ := hA hn
    obtain ⟨cur, hg, hcs, hci⟩ := hrow
    have hl : ((List.range (ln n)).map (rowN n)).length = ln n := by simp
    refine wpList_copy_own hgd d s dT sT ho elem hu hsz g 0 m m ⟨b, 0, none⟩ (ln n) c hd hs cur elem hg ((List.range (ln n)).map (rowN n)) (by rw [hl]; exact (Nat.min_eq_left hnm).symm) ?_ (by rw [hl]; omega) ?_ ?_
    · intro j v hv
      have hj : j < ln n := by have := (List.getElem?_eq_some_iff.1 hv).1; simpa using this
      rw [List.getElem?_map, List.getElem?_range hj] at hv
      simp only [Option.map_some, Option.some.injEq] at hv
      subst hv
      rw [Addr.add_lit, Nat.zero_add]
      exact hc j hj
    · intro v hv
      obtain ⟨j, _, rfl⟩ := List.mem_map.1 hv
      rfl
    · rw [hl]
      refine h _ ⟨_, setRow_heap w g _ _ elem _ hg, by simp [hcs]; omega, fun i hi => ?_⟩ ⟨rfl, rfl, rfl, by simp [World.setRow], fun k hk hne => setRow_other w g k _ (fun e => hne (by rw [e]))⟩
      rw [List.getElem?_toArray]
      by_cases hin : i < ln n
      · rw [List.take_zero, List.nil_append, List.getElem?_append_left (by simpa using hin), List.getElem?_map, List.getElem?_range hin]; rfl
      · rw [List.take_zero, List.nil_append, List.getElem?_append_right (by simp; omega), List.getElem?_drop, Nat.zero_add, hl, show ln n + (i - ln n) = i by omega, Array.getElem?_toList, hci i hi]
        unfold rowN; rw [wd_zero, wd_high (by omega)]
end
theorem Try.size_u32 : (Try.prog.info? 95).map (·.size) = some 1 := by kernel_rfl
end Go.Proofs.Ytdpjknjlhchmcaa

namespace Go.Proofs.Ytdpjknjlhchmcaa
open Go.RowKit Pl
set_option linter.unusedVariables false
/-- A call hands back two numbers in words. -/
def RetNat2 (w : World) (q r : Nat) (e : Ending) (w' : World) : Prop := ∃ A B, e = .returned (.tuple #[.slice A (ln q) (ln q), .slice B (ln r) (ln r)]) ∧ Nat32 w' A q ∧ Nat32 w' B r ∧ Below w.heap.size w w'
theorem lz_any (y : Nat) (hy : y ≠ 0) (w : World) :
    Calls Try.prog 73 #[.int .u32 (wd y (ln y - 1) : Nat)] w fun e w' => e = .returned (.int .i64 (lz y : Nat)) ∧ w = w' := by
  have hb := wd_lt y (ln y - 1)
  refine (Try.bits_LeadingZeros32 _ w (by omega) (by omega)).mono ?_
  rintro e w' ⟨rfl, rfl⟩
  refine ⟨ret_int ?_, rfl⟩
  have h := (lz_bounds (wd_last hy) hb).1
  unfold lz
  rw [Int.toNat_natCast]
  omega
theorem two_top {N k : Nat} (h : N < 4294967296 ^ (k + 2)) : N = (wd N (k + 1) * 4294967296 + wd N k) * 4294967296 ^ k + N % 4294967296 ^ k := by
  have h1 := mod_succ N (k + 1)
  have h2 := mod_succ N k
  rw [show k + 1 + 1 = k + 2 by omega, Nat.mod_eq_of_lt h] at h1
  rw [h2, Nat.pow_succ] at h1
  generalize 4294967296 ^ k = p at *
  generalize wd N (k + 1) = a at *
  generalize wd N k = b at *
  generalize N % p = c at *
  have e1 : (a * 4294967296 + b) * p = p * 4294967296 * a + p * b := by
    rw [Nat.add_mul, Nat.mul_comm b, Nat.mul_comm a, Nat.mul_comm p 4294967296, Nat.mul_assoc, Nat.mul_assoc, Nat.mul_comm a]
  rw [e1]; omega
theorem mulad (a b p : Nat) : (a * 4294967296 + b) * p = a * (p * 4294967296) + p * b := by
    rw [Nat.add_mul, Nat.mul_comm b, Nat.mul_assoc, Nat.mul_comm p 4294967296]
theorem three_top {N k : Nat} (h : N < 4294967296 ^ (k + 3)) : N = ((wd N (k + 2) * 4294967296 + wd N (k + 1)) * 4294967296 + wd N k) * 4294967296 ^ k + N % 4294967296 ^ k := by
  have h1 := two_top (N := N) (k := k + 1) (by rw [show k + 1 + 2 = k + 3 by omega]; exact h)
  have h2 := mod_succ N k
  have h3 : (4294967296:Nat) ^ (k + 1) = 4294967296 ^ k * 4294967296 := Nat.pow_succ _ _
  have h4 := mulad (wd N (k + 2) * 4294967296 + wd N (k + 1)) (wd N k) (4294967296 ^ k)
  rw [h2, h3] at h1
  rw [h4]
  have h5 : wd N (k + 1 + 1) = wd N (k + 2) := rfl
  rw [h5, ← Nat.add_assoc] at h1
  rw [Nat.add_assoc, Nat.add_comm (4294967296 ^ k * wd N k), ← Nat.add_assoc]
  exact h1
theorem Nat32.setOther {w : World} {b n : Nat} (h : Nat32 w (some ⟨b, 0, none⟩) n) {p : Addr} (hp : p.block ≠ b) (u : Value) : Nat32 (w.setCell p u) (some ⟨b, 0, none⟩) n := fun hn => by
  obtain ⟨b3, e3, hlt3, hc3⟩ := h hn
  injection e3 with e3; injection e3 with e3
  subst e3
  exact ⟨b, rfl, by simpa [World.setCell] using hlt3, fun i hi => (World.cell?_of_block (Below.heap_setCell _ _ _ _ (by show b ≠ p.block; omega))).trans (hc3 i hi)⟩
/-- The row behind a step of the division. -/
theorem seg_done {Z R D j n i : Nat} (hlow : R % 4294967296 ^ j = Z % 4294967296 ^ j) (hD : ∀ k, k < n + 1 → wd D k = wd (R / 4294967296 ^ j) k) (hR : R / 4294967296 ^ j < 4294967296 ^ (n + 1)) (hZ : Z / 4294967296 ^ j < 4294967296 ^ (n + 1)) : seg Z D j (n + 1) i = rowN R i := by
  unfold seg rowN
  by_cases h : j ≤ i ∧ i < j + (n + 1)
  · rw [if_pos h, hD (i - j) (by omega), wd_div, show j + (i - j) = i by omega]
  · rw [if_neg h]
    by_cases h2 : i < j
    · have e1 := wd_add_high (Z % 4294967296 ^ j) (Z / 4294967296 ^ j) j i h2
      have e2 := wd_add_high (R % 4294967296 ^ j) (R / 4294967296 ^ j) j i h2
      rw [Nat.mod_add_div] at e1 e2
      rw [e1, e2, hlow]
    · have e1 := wd_div Z j (i - j)
      have e2 := wd_div R j (i - j)
      rw [show j + (i - j) = i by omega] at e1 e2
      rw [← e1, ← e2, wd_top hZ (by omega), wd_top hR (by omega)]
theorem tk_words {W X n k : Nat} (hX : X ≤ W) (hk : k < n + 1) : wd (tk W X n) k = wd (W - X) k := by
  unfold tk
  rw [show W + 4294967296 ^ (n + 1) - X = (W - X) + 4294967296 ^ (n + 1) * 1 by omega]
  exact wd_add_high _ _ _ _ hk
theorem back_words {W X V n k : Nat} (hX : W < X) (hXV : X - V ≤ W) (hV : V ≤ X) (hb : X ≤ W + 4294967296 ^ (n + 1)) (hk : k < n + 1) : wd (tk W X n + V) k = wd (W - (X - V)) k := by
  unfold tk
  rw [show W + 4294967296 ^ (n + 1) - X + V = (W - (X - V)) + 4294967296 ^ (n + 1) * 1 by omega]
  exact wd_add_high _ _ _ _ hk
/-- The row while the divisor is added back. -/
def seg2 (u d e j n k i : Nat) : Value := if j ≤ i ∧ i < j + k then .int .u32 (wd e (i - j) : Nat) else seg u d j n i
theorem seg2_zero (u d e j n i : Nat) : seg u d j n i = seg2 u d e j n 0 i := by unfold seg2; rw [if_neg (by omega)]
theorem seg2_at {u d e j n k : Nat} (hk : k < n) : seg2 u d e j n k (k + j) = .int .u32 (wd d k : Nat) := by
  unfold seg2 seg; rw [if_neg (by omega), if_pos (by omega), show k + j - j = k by omega]
theorem seg2_step {u d e j n k i : Nat} {v : Value} (hv : v = .int .u32 (wd e k : Nat)) : (if i = k + j then v else seg2 u d e j n k i) = seg2 u d e j n (k + 1) i := by
  unfold seg2
  by_cases h : i = k + j
  · subst h; rw [if_pos rfl, hv, if_pos (by omega), show k + j - j = k by omega]
  · rw [if_neg h]
    by_cases h2 : j ≤ i ∧ i < j + k
    · rw [if_pos h2, if_pos (by omega)]
    · rw [if_neg h2, if_neg (by omega)]
theorem seg2_all (u d e j n i : Nat) : seg2 u d e j n n i = seg u e j n i := by
  unfold seg2 seg
  by_cases h : j ≤ i ∧ i < j + n
  · rw [if_pos h, if_pos h]
  · rw [if_neg h, if_neg h, if_neg h]
set_option maxRecDepth 100000 in
set_option maxHeartbeats 4000000 in
theorem div_main (x y : Nat) (A B : Option Addr) (w : World) (hx : Nat32 w A x) (hy : Nat32 w B y) (hbx : ln x ≤ 1099511627776) (hby : ln y ≤ 1099511627776) (hle : y ≤ x) (hl2 : 2 ≤ ln y) :
    Calls Try.prog 62 #[.slice A (ln x) (ln x), .slice B (ln y) (ln y)] w (RetNat2 w (x / y) (x % y)) := by
  have hll := ln_mono hle
  have hy0 : y ≠ 0 := fun e => by rw [e, ln_zero] at hl2; omega
  have hcmp : decide (cmpN x y < 0) = false := by
    unfold cmpN; rw [if_neg (by omega)]; split <;> rfl
  have t1 : ((ln y : Int) == 1) = false := by simpa using fun e => by omega
  have hmk := mk_nat (ln x + 1) (by omega)
  have ec : ((ln x + 1 : Nat) : Int) = (ln x : Int) + 1 := by omega
  rw [ec] at hmk
  have hmk2 := mk_nat (ln x + 1 - ln y) (by omega)
  have ec2 : ((ln x + 1 - ln y : Nat) : Int) = (ln x : Int) + 1 - (ln y : Int) := by omega
  rw [ec2] at hmk2
  clear ec ec2
  have hlz := lz_le y hy0
  have HN := Lib.hid (norm_y hy0)
  have HT := Lib.hid (ur_top hy0 hll)
  have hdm : x / y = (x * 2 ^ lz y) / (y * 2 ^ lz y) ∧ x % y = (x * 2 ^ lz y) % (y * 2 ^ lz y) / 2 ^ lz y := by
    have hp : 0 < 2 ^ lz y := Nat.pow_pos (by omega)
    exact ⟨(Nat.mul_div_mul_right _ _ hp).symm, by rw [Nat.mul_mod_mul_right, Nat.mul_div_cancel _ hp]⟩
  obtain ⟨V, hVe⟩ : ∃ V, V = y * 2 ^ lz y := ⟨_, rfl⟩
  obtain ⟨U, hUe⟩ : ∃ U, U = x * 2 ^ lz y := ⟨_, rfl⟩
  rw [← hVe] at HN HT hdm
  rw [← hUe] at HT hdm
  have HV := Lib.hid hVe
  have HU := Lib.hid hUe
  have HD := Lib.hid hdm
  clear hVe hUe hdm
  have HL : Hid (ln V = ln y) := by
    have h := HN.out
    show ln V = ln y
    have h1 := ln_le h.1
    have h2 : ln y - 1 < ln V := ln_gt (Nat.le_trans (by have := pow_pos' (ln y - 1); omega) h.2)
    omega
  have HUL : Hid (ln U ≤ ln x + 1) := by
    show ln U ≤ ln x + 1
    apply ln_le
    rw [HU.out, Nat.pow_succ]
    have h1 := lt_ln x
    have h2 : 2 ^ lz y ≤ 4294967296 := Nat.pow_le_pow_right (n := 2) (by omega) (show lz y ≤ 32 by omega)
    exact Nat.lt_of_lt_of_le (Nat.mul_lt_mul_of_pos_right h1 (Nat.pow_pos (by omega))) (Nat.mul_le_mul_left _ h2)
  go_enter Try.func62, Try.ntmps62
  go_wp2_with fail
  refine (cmp_any x y A B w hx hy (by omega)).mono ?_
  rintro e w1 ⟨rfl, hb1⟩
  have hx1 := hx.to hb1
  have hy1 := hy.to hb1
  have HC := Lib.hid hb1
  obtain ⟨b, rfl, hb, hcy⟩ := hy1 hy0
  have hyc := hcy (ln y - 1) (by omega)
  clear hx hy hb1 hcy
  go_wp2_with fail
  refine (lz_any y hy0 w1).mono ?_
  rintro e w' ⟨rfl, rfl⟩
  clear hyc
  go_wp2_with fail
  have hs1 := shl_any y (lz y) _ w1 hy1 (by omega) (by omega)
  rw [← HV.out] at hs1
  refine hs1.mono ?_
  clear hs1
  rintro e w2 ⟨AV, rfl, hV, hb2⟩
  rw [HL.out]
  have hx2 := (hx1.to hb2).alloc (.cells (madeCells #[.int .u32 0] (ln x + 1)) 95)
  have hV2 := hV.alloc (.cells (madeCells #[.int .u32 0] (ln x + 1)) 95)
  have hru := (World.rowIs_made w2 (.int .u32 0) (ln x + 1) 95).congr (g := rowN 0) fun j _ => (rowN_zero j).symm
  go_wp2_with fail
  have hs2 := shl_any x (lz y) _ _ hx2 (by omega) (by omega)
  rw [← HU.out] at hs2
  refine hs2.mono ?_
  clear hs2
  rintro e w3 ⟨AU, rfl, hU, hb3⟩
  have hV3 := hV2.to hb3
  have hru3 := hru.of_block (hb3.block _ (by simp))
  go_wp2_with (with_reducible refine wpList_copy_words rfl (.tmp 56) (.tmp 59) _ _ rfl 95 Try.und_nat Try.size_u32 _ _ _ _ _ rfl rfl hru3 hU ?_ ?_)
  · exact HUL.out
  intro w4 hru4 hg4
  have hV4 : Nat32 w4 AV V := fun hv0 => by
    obtain ⟨b2, e2, hlt2, hc2⟩ := hV hv0
    refine ⟨b2, e2, ?_, fun j hj => ?_⟩
    · have := hb3.size; have := hg4.size; simp at *; omega
    · have hb3s := hb3.size
      simp at hb3s
      refine (grown_cell hg4 (by omega) (by omega)).trans ((hb3.cell (p := ⟨b2, j, none⟩) (by simp; omega)).trans ?_)
      exact (World.cell?_alloc_lt _ _ _ hlt2).trans (hc2 j hj)
  have hBV : ∀ b2, AV = some ⟨b2, 0, none⟩ → b2 < w2.heap.size := fun b2 e2 => by
    have hv0 : V ≠ 0 := fun e => by have := HL.out; rw [e, ln_zero] at this; omega
    obtain ⟨b3, e3, hlt3, _⟩ := hV hv0
    rw [e2] at e3; injection e3 with e3; injection e3 with e3; omega
  have hbel4 : Below w.heap.size w w4 := by
    have h2 := HC.out.trans (hb2.mono HC.out.size)
    have h3 := (h2.alloc (by have := h2.size; exact this) (.cells (madeCells #[.int .u32 0] (ln x + 1)) 95)).trans (hb3.mono (by have := h2.size; simp; omega))
    exact h3.grown hg4 (by have := h3.size; exact this) (fun k e => by injection e with e; have := h2.size; omega)
  obtain ⟨gU, hgU⟩ : ∃ gU, gU = w2.heap.size := ⟨_, rfl⟩
  have hgUw : w.heap.size ≤ gU := by have h2 := HC.out.trans (hb2.mono HC.out.size); have := h2.size; omega
  rw [← hgU] at hru4 hBV ⊢
  have HBV := Lib.hid hBV
  clear hBV hg4 hb3 hru3 hV3 hU hV hV2 hru hx2 hb2 hgU hx1 hy1
  obtain ⟨L, hL⟩ : ∃ L, L = ln x + 1 - ln y := ⟨_, rfl⟩
  have hmk3 := fun wz => hmk2 wz
  rw [← hL] at hmk3
  have HLe := Lib.hid hL
  have hL1 : 1 ≤ L := by omega
  have hLn : L ≤ 1099511627777 := by omega
  clear hL hmk2 hmk
  go_wp2_with fail
  have hrq := (World.rowIs_made w4 (.int .u32 0) L 95).congr (g := above (U / V) L) fun j hj => (above_all _ hj).symm
  have hru5 := (hru4.alloc (.cells (madeCells #[.int .u32 0] L) 95)).congr (g := rowN (ur U V L)) fun j _ => by rw [ur_all (by rw [HLe.out]; exact HT.out)]
  have hV5 := hV4.alloc (.cells (madeCells #[.int .u32 0] L) 95)
  have hbel5 := hbel4.alloc (by have := hbel4.size; exact this) (.cells (madeCells #[.int .u32 0] L) 95)
  obtain ⟨gQ, hgQ⟩ : ∃ gQ, gQ = w4.heap.size := ⟨_, rfl⟩
  have hgUQ : gU < gQ := by rw [hgQ]; exact hru4.lt
  rw [← hgQ] at hrq ⊢
  clear hgQ hru4 hV4 hbel4 hmk3
  go_loopw [13] (fun i wr => ∃ (k : Nat) (iv : Int), k ≤ L ∧ iv = (k : Int) - 1 ∧ i = .int .i64 iv ∧ wr.rowIs gU 95 (ln x + 1) (rowN (ur U V k)) ∧ wr.rowIs gQ 95 L (above (U / V) k) ∧ Nat32 wr AV V ∧ Below w.heap.size w wr) (fun i _ => (intOf i + 1).toNat)
  case atStart => exact ⟨L, _, Nat.le_refl _, rfl, rfl, hru5, hrq, hV5, hbel5⟩
  case round =>
    obtain ⟨k, iv, hk, hiv, rfl, hru, hrq', hVr, hbel⟩ := hrel
    clear hru5 hrq hV5 hbel5
    by_cases hk0 : 0 < k
    · obtain ⟨j, rfl⟩ : ∃ j, k = j + 1 := ⟨k - 1, by omega⟩
      obtain rfl : iv = (j : Int) := by omega
      clear hiv
      have hV0 : V ≠ 0 := fun e => by have := HL.out; rw [e, ln_zero] at this; omega
      have HS := Lib.hid (ur_step (u := U) (V := V) (j := j) (by omega))
      obtain ⟨Z, hZ⟩ : ∃ Z, Z = ur U V (j + 1) := ⟨_, rfl⟩
      rw [← hZ] at hru HS
      have HZ := Lib.hid hZ
      clear hZ
      obtain ⟨b2, rfl, hlt2, hcv⟩ := hVr hV0
      have hb2g := HBV.out b2 rfl
      have hjm : j + ln y < ln x + 1 := by have := HLe.out; omega
      have c0 := hru.cell (i := j + ln y) (by omega)
      have c1 := hru.cell (i := j + ln y - 1) (by omega)
      have c2 := hru.cell (i := j + ln y - 2) (by omega)
      have d1 := hcv (ln y - 1) (by have := HL.out; omega)
      have d2 := hcv (ln y - 2) (by have := HL.out; omega)
      unfold rowN at c0 c1 c2
      obtain ⟨z0, hz0⟩ : ∃ z, z = wd Z (j + ln y) := ⟨_, rfl⟩
      obtain ⟨z1, hz1⟩ : ∃ z, z = wd Z (j + ln y - 1) := ⟨_, rfl⟩
      obtain ⟨z2, hz2⟩ : ∃ z, z = wd Z (j + ln y - 2) := ⟨_, rfl⟩
      obtain ⟨vt, hvt⟩ : ∃ z, z = wd V (ln y - 1) := ⟨_, rfl⟩
      obtain ⟨vs, hvs⟩ : ∃ z, z = wd V (ln y - 2) := ⟨_, rfl⟩
      rw [← hz0] at c0
      rw [← hz1] at c1
      rw [← hz2] at c2
      rw [← hvt] at d1
      rw [← hvs] at d2
      have bz0 : z0 < 4294967296 := by rw [hz0]; exact wd_lt _ _
      have bz1 : z1 < 4294967296 := by rw [hz1]; exact wd_lt _ _
      have bz2 : z2 < 4294967296 := by rw [hz2]; exact wd_lt _ _
      have bvt : vt < 4294967296 := by rw [hvt]; exact wd_lt _ _
      have bvs : vs < 4294967296 := by rw [hvs]; exact wd_lt _ _
      have bvt2 : 2147483648 ≤ vt := by
        rw [hvt, ← HL.out, top_word hV0, HL.out]
        exact (Nat.le_div_iff_mul_le (pow_pos' _)).2 HN.out.2
      have H0 := Lib.hid hz0
      have H1 := Lib.hid hz1
      have H2 := Lib.hid hz2
      have HT1 := Lib.hid hvt
      have HS1 := Lib.hid hvs
      clear hz0 hz1 hz2 hvt hvs hcv
      obtain ⟨top, htop⟩ : ∃ t, t = z0 * 4294967296 + z1 := ⟨_, rfl⟩
      have hor := hl_or bz0 bz1
      rw [← htop] at hor
      have btop : top < 18446744073709551616 := by omega
      obtain ⟨g0, hg0⟩ : ∃ t, t = top / vt := ⟨_, rfl⟩
      obtain ⟨r0, hr0⟩ : ∃ t, t = top % vt := ⟨_, rfl⟩
      have bg0 : g0 < 8589934592 := by rw [hg0]; exact (Nat.div_lt_iff_lt_mul (by omega)).2 (by omega)
      have br0 : r0 < vt := by rw [hr0]; exact Nat.mod_lt _ (by omega)
      have e1 : IntKind.u64.wrap ((top : Int) / (vt : Int)) = (g0 : Nat) := by
        rw [← Int.natCast_ediv, ← hg0, IntKind.wrap_u64]; omega
      have e2 : (top : Int) % (vt : Int) = (r0 : Nat) := by rw [← Int.natCast_emod, ← hr0]
      have HTO := Lib.hid htop
      have HG := Lib.hid hg0
      have HR := Lib.hid hr0
      clear htop hg0 hr0
      go_wp2_with fail
      go_quiet (fail)
      go_wp2_with fail
      go_quiet (fail)
      obtain ⟨W, hW⟩ : ∃ t, t = Z / 4294967296 ^ j := ⟨_, rfl⟩
      obtain ⟨q, hq⟩ : ∃ t, t = W / V := ⟨_, rfl⟩
      have HVd := Lib.hid (show V = (vt * 4294967296 + vs) * 4294967296 ^ (ln y - 2) + V % 4294967296 ^ (ln y - 2) by
        rw [HT1.out, HS1.out]
        have h := two_top (N := V) (k := ln y - 2) (by rw [show ln y - 2 + 2 = ln y by omega]; exact HN.out.1)
        rw [show ln y - 2 + 1 = ln y - 1 by omega] at h
        exact h)
      have HWV := Lib.hid (show W < V * 4294967296 by rw [hW]; exact HS.out.2.1)
      have HWd := Lib.hid (show W = (top * 4294967296 + z2) * 4294967296 ^ (ln y - 2) + W % 4294967296 ^ (ln y - 2) by
        have hWn : W < 4294967296 ^ (ln y - 2 + 3) := by
          rw [show ln y - 2 + 3 = ln y + 1 by omega, Nat.pow_succ]
          exact Nat.lt_trans HWV.out (Nat.mul_lt_mul_of_pos_right HN.out.1 (by omega))
        have h := three_top hWn
        rw [hW, wd_div, wd_div, wd_div, ← hW, show j + (ln y - 2 + 2) = j + ln y by omega, show j + (ln y - 2 + 1) = j + ln y - 1 by omega, show j + (ln y - 2) = j + ln y - 2 by omega, ← H0.out, ← H1.out, ← H2.out, ← HTO.out] at h
        exact h)
      have HQ := Lib.hid hq
      have HW := Lib.hid hW
      have hqV : q * V ≤ W := by rw [hq]; exact Nat.div_mul_le_self _ _
      have HQV := Lib.hid hqV
      clear hW hq hqV
      have HP := Lib.hid (Nat.mod_lt V (pow_pos' (ln y - 2)))
      have HP2 := Lib.hid (Nat.mod_lt W (pow_pos' (ln y - 2)))
      go_upto_block 2 with fail
      go_cut [15] from 106 to 141 (fun g wx => ∃ gv : Nat, g = .int .u64 gv ∧ gv < 4294967296 ∧ (gv = q ∨ gv = q + 1) ∧ ∃ n, wx = wr.drewN n)
      case first =>
        go_wp2_with fail
        go_loopw [15, 16] (fun g r wx => ∃ gv rv : Nat, g = .int .u64 gv ∧ r = .int .u64 rv ∧ gv * vt + rv = top ∧ q ≤ gv ∧ rv < 4294967296 ∧ gv < 8589934592 ∧ ∃ n, wx = wr.drewN n) (fun g _ _ => (intOf g).toNat)
        case atStart => exact ⟨g0, r0, rfl, int_val e2, by rw [HG.out, HR.out, Nat.mul_comm]; exact Nat.div_add_mod _ _, by rw [HG.out]; exact kd_ge HVd.out HWd.out HP2.out bz2 (by omega) HQV.out, by omega, bg0, _, (World.drewN_drewN _ _ _)⟩
        case round =>
          clear btop hor e1 e2 c0 c1
          obtain ⟨gv, rv, rfl, rfl, hgr, hqg, hrv, hgv, n', rfl⟩ := hrel
          have HGR := Lib.hid hgr
          clear hgr
          by_cases hbig : 4294967296 ≤ gv
          · have hd : decide ((4294967296 : Int) ≤ (gv : Int)) = true := by
              rw [decide_eq_true_eq]; omega
            have hqlt : q < gv := kd_dec HVd.out HWd.out HP2.out HWV.out HGR.out (.inl hbig) HQV.out hqg
            go_wp2_with fail
            go_quiet (fail)
            have hg1 : (gv : Int) - 1 = ((gv - 1 : Nat) : Int) := by omega
            have HOUT := Lib.hid (fun hr : 4294967296 ≤ rv + vt => kd_out HVd.out HP.out bvs HWd.out HWV.out (show (gv - 1) * vt + (rv + vt) = top by rw [← HGR.out, Nat.sub_mul, Nat.one_mul]; have := Nat.le_mul_of_pos_left vt (show 0 < gv by omega); omega) hr)
            have HGR2 := Lib.hid (show (gv - 1) * vt + (rv + vt) = top by rw [← HGR.out, Nat.sub_mul, Nat.one_mul]; have := Nat.le_mul_of_pos_left vt (show 0 < gv by omega); omega)
            by_cases hr : 4294967296 ≤ rv + vt
            · have hr2 : decide ((4294967296 : Int) ≤ (rv : Int) + (vt : Int)) = true := by
                rw [decide_eq_true_eq]; omega
              go_wp2_with fail
              go_meet
              exact ⟨gv - 1, by rw [← hg1], (HOUT.out hr).1, .inl (by
                have h1 := (Nat.le_div_iff_mul_le (by omega)).2 (HOUT.out hr).2
                rw [← HQ.out] at h1; omega), _, rfl⟩
            · have hr2 : decide ((4294967296 : Int) ≤ (rv : Int) + (vt : Int)) = false := by
                rw [decide_eq_false_iff_not]; omega
              go_wp2_with fail
              go_roundw
              case rel => exact ⟨gv - 1, rv + vt, by rw [← hg1], by go_num, HGR2.out, by omega, by omega, by omega, _, rfl⟩
              case measure => simp [intOf]; omega
          · have hd : decide ((4294967296 : Int) ≤ (gv : Int)) = false := by
              rw [decide_eq_false_iff_not]; omega
            obtain ⟨ru, hru0⟩ : ∃ t, t = rv * 4294967296 + z2 := ⟨_, rfl⟩
            have hor := hl_or hrv bz2
            rw [← hru0] at hor
            have HRU := Lib.hid hru0
            have hp1 := prod_le (show gv < 4294967296 by omega) bvs
            have hp0 : 0 ≤ (gv : Int) * (vs : Int) := Int.mul_nonneg (by omega) (by omega)
            have hp2 : ((gv * vs : Nat) : Int) = (gv : Int) * (vs : Int) := Int.natCast_mul _ _
            by_cases hlt : ru < gv * vs
            · have hd2 : decide ((ru : Int) < (gv : Int) * (vs : Int)) = true := by
                rw [decide_eq_true_eq]; omega
              have hqlt : q < gv := kd_dec HVd.out HWd.out HP2.out HWV.out HGR.out (.inr (by rw [← hru0]; exact hlt)) HQV.out hqg
              clear hru0 hp2
              go_wp2_with fail
              go_quiet (fail)
              have hg1 : (gv : Int) - 1 = ((gv - 1 : Nat) : Int) := by omega
              have HOUT := Lib.hid (fun hr : 4294967296 ≤ rv + vt => kd_out HVd.out HP.out bvs HWd.out HWV.out (show (gv - 1) * vt + (rv + vt) = top by rw [← HGR.out, Nat.sub_mul, Nat.one_mul]; have := Nat.le_mul_of_pos_left vt (show 0 < gv by omega); omega) hr)
              have HGR2 := Lib.hid (show (gv - 1) * vt + (rv + vt) = top by rw [← HGR.out, Nat.sub_mul, Nat.one_mul]; have := Nat.le_mul_of_pos_left vt (show 0 < gv by omega); omega)
              by_cases hr : 4294967296 ≤ rv + vt
              · have hr2 : decide ((4294967296 : Int) ≤ (rv : Int) + (vt : Int)) = true := by
                  rw [decide_eq_true_eq]; omega
                go_wp2_with fail
                go_meet
                exact ⟨gv - 1, by rw [← hg1], (HOUT.out hr).1, .inl (by
                  have h1 := (Nat.le_div_iff_mul_le (by omega)).2 (HOUT.out hr).2
                  rw [← HQ.out] at h1; omega), _, rfl⟩
              · have hr2 : decide ((4294967296 : Int) ≤ (rv : Int) + (vt : Int)) = false := by
                  rw [decide_eq_false_iff_not]; omega
                go_wp2_with fail
                go_roundw
                case rel => exact ⟨gv - 1, rv + vt, by rw [← hg1], by go_num, HGR2.out, by omega, by omega, by omega, _, rfl⟩
                case measure => simp [intOf]; omega
            · have hd2 : decide ((ru : Int) < (gv : Int) * (vs : Int)) = false := by
                rw [decide_eq_false_iff_not]; omega
              have HF := Lib.hid (kd_fit HVd.out HP.out (by omega) HWd.out HGR.out (by omega) (by rw [← hru0]; omega))
              clear hru0 hp2
              go_wp2_with fail
              go_quiet (fail)
              go_wp2_with fail
              go_meet
              exact ⟨gv, rfl, by omega, kd_word hqg (by
                have h1 := Nat.lt_mul_div_succ W (show 0 < V by omega)
                rw [← HQ.out, Nat.mul_comm] at h1; exact h1) HF.out, _, World.drewN_drewN _ _ _⟩
      case rest =>
        clear btop hor e1 e2 c0 c1 c2 d1 d2
        obtain ⟨gv, rfl, hgv, hgq, n', rfl⟩ := hcut
        have hZU : Z < 4294967296 ^ (j + ln y + 1) := by
          have h1 : Z / 4294967296 ^ j < 4294967296 ^ (ln y + 1) := by
            rw [← HW.out, Nat.pow_succ]; exact Nat.lt_trans HWV.out (Nat.mul_lt_mul_of_pos_right HN.out.1 (by omega))
          rw [Nat.div_lt_iff_lt_mul (pow_pos' j), ← Nat.pow_add, show ln y + 1 + j = j + ln y + 1 by omega] at h1
          exact h1
        have HZU := Lib.hid hZU
        clear hZU
        go_wp2_with fail
        refine (take_any (wr.drewN n') gU (ln x + 1) (ln y) j Z V gv _ (by omega) (by omega) HL.out.symm hgv hru hVr (by intro e; injection e with e; injection e with e; omega) HZU.out).mono ?_
        rintro e w6 ⟨rfl, hru6, hg6⟩
        rw [← HW.out] at hru6 ⊢
        have hb6 : Below w.heap.size w w6 := (below_drewN hbel n').grown hg6 (by have := hbel.size; exact this) (fun k e => by injection e with e; omega)
        have hrq6 : w6.rowIs gQ 95 L (above (U / V) (j + 1)) := hrq'.of_block (hg6.block gQ hrq'.lt (by intro e; injection e with e; omega))
        have hV6 : Nat32 w6 (some ⟨b2, 0, none⟩) V := fun hv => by
          obtain ⟨b3, e3, hlt3, hc3⟩ := hVr hv
          injection e3 with e3; injection e3 with e3
          subst e3
          exact ⟨b2, rfl, Nat.lt_of_lt_of_le hlt3 hg6.size, fun i hi => (grown_cell hg6 (b := b2) hlt3 (by omega)).trans (hc3 i hi)⟩
        have HWl := Lib.hid (show W < 4294967296 ^ (ln y + 1) by
          rw [Nat.pow_succ]; exact Nat.lt_trans HWV.out (Nat.mul_lt_mul_of_pos_right HN.out.1 (by omega)))
        have HRl := Lib.hid (show ur U V j / 4294967296 ^ j = W - q * V by
          rw [HS.out.2.2.1, ← HW.out, HQ.out]
          have h1 := Nat.div_add_mod W V
          rw [Nat.mul_comm] at h1; omega)
        have HQJ := Lib.hid (show q = wd (U / V) j by rw [HQ.out, HW.out]; exact HS.out.1)
        clear hru hrq' hVr hbel hg6 hlt2
        rcases hgq with rfl | rfl
        · have hnt : decide (W < gv * V) = false := by
            rw [decide_eq_false_iff_not]; have := HQV.out; omega
          have hru7 : w6.rowIs gU 95 (ln x + 1) (rowN (ur U V j)) := hru6.congr fun i _ => seg_done (HS.out.2.2.2) (fun k hk => by rw [HRl.out]; exact tk_words HQV.out hk) (by rw [HRl.out]; have := HWl.out; omega) (by rw [← HW.out]; exact HWl.out)
          have hst := hrq6.cell (i := j) (by omega)
          have hfr := hrq6.frozen j
          clear hru6
          go_wp2_with fail
          go_roundw
          case rel => exact ⟨j, (j : Int) - 1, by omega, rfl, rfl, hru7.setOther (by show gU ≠ gQ; omega) _, (hrq6.set _ _).congr fun i _ => above_step (by omega) (int_val (by rw [Nat.add_sub_cancel, ← HQJ.out])), hV6.setOther (by show gQ ≠ b2; omega) _, hb6.setCell (by show w.heap.size ≤ gQ; omega) _⟩
          case measure => simp [intOf] <;> omega
        · have hnt : decide (W < (q + 1) * V) = true := by
            rw [decide_eq_true_eq]
            have h1 := Nat.lt_mul_div_succ W (show 0 < V by omega)
            rw [← HQ.out, Nat.mul_comm] at h1; exact h1
          obtain ⟨X, hX⟩ : ∃ t, t = (q + 1) * V := ⟨_, rfl⟩
          have hX1 : X = q * V + V := by rw [hX, Nat.add_mul, Nat.one_mul]
          have HXW := Lib.hid (show W < X by rw [hX]; simpa using hnt)
          rw [← hX] at hru6 hnt ⊢
          have HX1 := Lib.hid hX1
          clear hX hX1
          obtain ⟨D, hD⟩ : ∃ t, t = tk W X (ln y) := ⟨_, rfl⟩
          rw [← hD] at hru6
          have HDX := Lib.hid (show ∀ k, k < ln y + 1 → wd (D + V) k = wd (W - q * V) k from fun k hk => by
            have h0 : X - V = q * V := by rw [HX1.out]; omega
            have h1 := back_words (W := W) (X := X) (V := V) (n := ln y) (k := k) HXW.out (by rw [h0]; exact HQV.out) (by rw [HX1.out]; omega) (by have := HQV.out; have := HX1.out; have := HN.out.1; have h9 : (4294967296 : Nat) ^ ln y ≤ 4294967296 ^ (ln y + 1) := Nat.pow_le_pow_right (by omega) (by omega); omega) hk
            rw [h0, ← hD] at h1; exact h1)
          clear hD
          have hruA := hru6.congr (g := seg2 Z D (D + V) j (ln y + 1) 0) fun i _ => seg2_zero _ _ _ _ _ _
          have hq1 : ((q + 1 : Nat) : Int) - 1 = (q : Int) := by omega
          clear hru6
          go_wp2_with fail
          go_loopw [17, 151] (fun c i wx => ∃ k : Nat, k ≤ ln y ∧ i = .int .i64 k ∧ c = .int .u64 (cr D V k : Nat) ∧ wx.rowIs gU 95 (ln x + 1) (seg2 Z D (D + V) j (ln y + 1) k) ∧ wx.rowIs gQ 95 L (above (U / V) (j + 1)) ∧ Nat32 wx (some ⟨b2, 0, none⟩) V ∧ Below w.heap.size w wx) (fun _ i _ => ln y - (intOf i).toNat)
          case atStart => exact ⟨0, Nat.zero_le _, rfl, by rw [cr_zero]; rfl, hruA, hrq6, hV6, hb6⟩
          case round =>
            obtain ⟨k, hk, rfl, rfl, hruk, hrqk, hVk, hbk⟩ := hrel
            clear hruA hrq6 hV6 hb6
            have bc := cr_le D V k
            by_cases hlt : k < ln y
            · obtain ⟨b3, e3, hlt3, hc3⟩ := hVk hV0
              injection e3 with e3; injection e3 with e3
              subst e3
              have hvk := hc3 k (by have := HL.out; omega)
              have hst := hruk.cell (i := k + j) (by omega)
              rw [seg2_at (by omega)] at hst
              have hfr := hruk.frozen (k + j)
              have bD := wd_lt D k
              have bV := wd_lt V k
              clear hc3
              have HC1 := Lib.hid (cr_word D V k)
              have HC2 := Lib.hid (cr_step D V k)
              go_wp2_with fail
              go_roundw
              case rel => exact ⟨k + 1, by omega, by go_num, int_val (by have := HC2.out; omega), (hruk.set _ _).congr fun i _ => seg2_step (int_val (by have := HC1.out; omega)), hrqk.setOther (by show gQ ≠ gU; omega) _, hVk.setOther (by show gU ≠ b2; omega) _, hbk.setCell (by show w.heap.size ≤ gU; omega) _⟩
              case measure => simp [intOf]; omega
            · obtain rfl : k = ln y := by omega
              have hst := hruk.cell (i := ln y + j) (by omega)
              rw [seg2_at (by omega), Nat.add_comm (ln y) j] at hst
              have hfr := hruk.frozen (j + ln y)
              have bD := wd_lt D (ln y)
              have hst2 := hrqk.cell (i := j) (by omega)
              have hfr2 := hrqk.frozen j
              have HC1 := Lib.hid (cr_word D V (ln y))
              have HV0 := Lib.hid (show wd V (ln y) = 0 from wd_top HN.out.1 (Nat.le_refl _))
              go_wp2_with fail
              go_roundw
              case rel => exact ⟨j, (j : Int) - 1, by omega, rfl, rfl, (((hruk.set _ _).congr (g := rowN (ur U V j)) fun i _ => by
                  rw [Nat.add_comm j (ln y), seg2_step (int_val (by have h1 := HC1.out; have h2 := HV0.out; omega)), seg2_all]
                  exact seg_done HS.out.2.2.2 (fun k hk => by rw [HDX.out k hk, HRl.out]) (by rw [HRl.out]; have := HWl.out; omega) (by rw [← HW.out]; exact HWl.out))).setOther (by show gU ≠ gQ; omega) _, ((hrqk.setOther (by show gQ ≠ gU; omega) _).set _ _).congr fun i _ => above_step (by omega) (int_val (by rw [Nat.add_sub_cancel, ← HQJ.out])), (hVk.setOther (by show gU ≠ b2; omega) _).setOther (by show gQ ≠ b2; omega) _, (hbk.setCell (by show w.heap.size ≤ gU; omega) _).setCell (by show w.heap.size ≤ gQ; omega) _⟩
              case measure => simp [intOf] <;> omega
    · obtain rfl : k = 0 := by omega
      have HQ0 := Lib.hid (show U / V < 4294967296 ^ L from (by
        rw [Nat.div_lt_iff_lt_mul (by have := HN.out.2; have := pow_pos' (ln y - 1); omega), Nat.mul_comm, HLe.out]; exact HT.out))
      have HR0 := Lib.hid (show ur U V 0 = U % V from ur_zero U V)
      have HUV := Lib.hid (show U % V < 4294967296 ^ ln y from Nat.lt_trans (Nat.mod_lt _ (by have := HN.out.2; have := pow_pos' (ln y - 1); omega)) HN.out.1)
      have hruV := hru.congr (g := rowN (U % V)) fun i _ => by rw [HR0.out]
      have HQC := Lib.hid (show ∀ i, i < L → wr.cell? ⟨gQ, i, none⟩ = some (.int .u32 (wd (U / V) i : Nat)) from fun i hi => by rw [← above_zero]; exact hrq'.cell hi)
      have HUC := Lib.hid (show ∀ i, i < ln y → wr.cell? ⟨gU, i, none⟩ = some (.int .u32 (wd (U % V) i : Nat)) from fun i hi => hruV.cell (by omega))
      have HUN := Lib.hid (show Nat32 wr (some ⟨gU, 0, none⟩) (U % V) from Nat32.ofRow hruV (by have := ln_le HUV.out; omega) fun i _ => rfl)
      have HQN := Lib.hid (show Nat32 wr (some ⟨gQ, 0, none⟩) (U / V) from Nat32.ofRow hrq' (ln_le HQ0.out) fun i _ => above_zero _ _)
      have hul : ln (U % V) ≤ 35184372088832 := by have := ln_le HUV.out; omega
      have hst : ln y ≤ ln x + 1 := by omega
      have HB := Lib.hid hbel
      clear HBV hru hrq' hVr hbel hruV
      go_wp2_with fail
      go_region_with (first
        | (go_at_call_of 63 (Value.slice (some ⟨gQ, 0, none⟩) L L); refine (trim_any _ gQ L L (U / V) (by omega) (Nat.le_refl _) HQ0.out (by exact HQC.out)).mono ?_; rintro e w' ⟨rfl, rfl⟩)
        | (go_at_call_of 63 (some (Addr.mk gU 0 none)); go_loud (refine (trim_any _ gU (ln y) (ln x + 1) (U % V) (by omega) (by omega) HUV.out (by exact HUC.out)).mono ?_); rintro e w' ⟨rfl, rfl⟩)
        | (go_at_call 76; refine (shr_any (U % V) (lz y) _ _ (by exact HUN.out) hul (by omega)).mono ?_; rintro e w' ⟨AR, rfl, hR, hbR⟩))
      all_goals
        go_wp2_with fail
        go_ret2
        rw [HD.out.1, HD.out.2]
        exact ⟨_, _, rfl, HQN.out.drew.to hbR, hR, (HB.out.drew).trans (hbR.mono HB.out.size)⟩
end Go.Proofs.Ytdpjknjlhchmcaa

namespace Go.Proofs.Ytdpjknjlhchmcaa
open Go.RowKit Pl
set_option linter.unusedVariables false
set_option maxRecDepth 100000 in
set_option maxHeartbeats 1000000 in
/-- 'x.div(y)', y not 0. -/
theorem div_any (x y : Nat) (A B : Option Addr) (w : World) (hx : Nat32 w A x) (hy : Nat32 w B y) (hbx : ln x ≤ 1099511627776) (hby : ln y ≤ 1099511627776) (hy0 : y ≠ 0) :
    Calls Try.prog 62 #[.slice A (ln x) (ln x), .slice B (ln y) (ln y)] w (RetNat2 w (x / y) (x % y)) := by
  rcases Nat.lt_or_ge x y with hlt | hle
  · have hcmp : decide (cmpN x y < 0) = true := by rw [cmpN_lt hlt]; rfl
    have hq : x / y = 0 := Nat.div_eq_of_lt hlt
    have hr : x % y = x := Nat.mod_eq_of_lt hlt
    rw [hq, hr]
    clear hq hr
    go_enter Try.func62, Try.ntmps62
    go_wp2_with fail
    refine (cmp_any x y A B w hx hy (by omega)).mono ?_
    rintro e w1 ⟨rfl, hb1⟩
    have hx1 := hx.to hb1
    have HB := Lib.hid hb1
    clear hb1
    go_wp2_with fail
    go_ret2
    exact ⟨none, A, by rw [ln_zero]; rfl, Nat32.zero _ _, hx1, HB.out⟩
  · by_cases hl2 : 2 ≤ ln y
    · exact div_main x y A B w hx hy hbx hby hle hl2
    · have hl1 : ln y = 1 := by have := ln_pos hy0; omega
      have hcmp : decide (cmpN x y < 0) = false := by
        unfold cmpN; rw [if_neg (by omega)]; split <;> rfl
      have hyB : y < 4294967296 := by have := lt_ln y; rw [hl1] at this; simpa using this
      have hw0 : wd y 0 = y := by rw [wd_0, Nat.mod_eq_of_lt hyB]
      have t1 : ((ln y : Int) == 1) = true := by rw [hl1]; rfl
      have HW0 := Lib.hid hw0
      have hlp : 0 < ln y := by omega
      clear hw0 hl1
      go_enter Try.func62, Try.ntmps62
      go_wp2_with fail
      refine (cmp_any x y A B w hx hy (by omega)).mono ?_
      rintro e w1 ⟨rfl, hb1⟩
      obtain ⟨b, rfl, hb, hcy⟩ := (hy.to hb1) hy0
      have hyc := hcy 0 (by omega)
      have hx1 := hx.to hb1
      have HB := Lib.hid hb1
      rw [HW0.out] at hyc
      clear hb1 hcy hy hx
      go_wp2_with fail
      refine (short_any x y A w1 hx1 (by omega) (by omega) hyB).mono ?_
      rintro e w2 ⟨AQ, rfl, hQ, hb2⟩
      have hmb : x % y < 18446744073709551616 := Nat.lt_trans (Nat.mod_lt _ (by omega)) (by omega)
      have HM := Lib.hid hmb
      have HB2 := Lib.hid (HB.out.trans (hb2.mono HB.out.size))
      obtain ⟨r, hr⟩ : ∃ r, r = x % y := ⟨_, rfl⟩
      rw [← hr] at HM ⊢
      clear hmb hb2 hyc
      have hrb : r < 4294967296 := by rw [hr]; exact Nat.lt_trans (Nat.mod_lt _ (by omega)) hyB
      have HR := Lib.hid hr
      clear hr
      go_wp2_with fail
      refine (natOf_any r HM.out w2).mono ?_
      rintro e w3 ⟨AR, rfl, hR, hb3⟩
      go_wp2_with fail
      go_ret2
      rw [← HR.out]
      exact ⟨AQ, AR, rfl, hQ.to hb3, hR, HB2.out.trans (hb3.mono HB2.out.size)⟩
end Go.Proofs.Ytdpjknjlhchmcaa

namespace Go.Proofs.Ytdpjknjlhchmcaa
open Go.RowKit Pl
set_option linter.unusedVariables false
set_option maxHeartbeats 1000000 in
/-- 'x.gcd(y)'. -/
theorem gcd_any (x y : Nat) (A B : Option Addr) (w : World) (hx : Nat32 w A x) (hy : Nat32 w B y) (hbx : ln x ≤ 1099511627776) (hby : ln y ≤ 1099511627776) :
    Calls Try.prog 60 #[.slice A (ln x) (ln x), .slice B (ln y) (ln y)] w (RetNat w (Nat.gcd x y)) := by
  go_enter Try.func60, Try.ntmps60
  go_wp2_with fail
  go_loopg [0, 1] y (fun m u v wr => ∃ (a : Nat) (A B : Option Addr), u = .slice A (ln a) (ln a) ∧ v = .slice B (ln m) (ln m) ∧ Hid (Nat.gcd a m = Nat.gcd x y) ∧ ln a ≤ 1099511627776 ∧ ln m ≤ 1099511627776 ∧ Nat32 wr A a ∧ Nat32 wr B m ∧ Below w.heap.size w wr)
  case atStart => exact ⟨x, A, B, rfl, rfl, rfl, hbx, hby, hx, hy, Below.refl _ _⟩
  case round =>
    obtain ⟨a, A', B', rfl, rfl, hg, ha, hm, hA, hB, hb⟩ := hrel
    clear hx hy
    by_cases hm0 : gk = 0
    · have t1 : decide (0 < ln gk) = false := by rw [hm0, ln_zero]; rfl
      have HG := Lib.hid (show a = Nat.gcd x y by rw [← hg.out, hm0, Nat.gcd_zero_right])
      have HB := Lib.hid hb
      clear hm0 hb hg
      go_wp2_with fail
      go_ret
      rw [← HG.out]
      exact ⟨A', rfl, hA, HB.out⟩
    · have t1 : decide (0 < ln gk) = true := by have := ln_pos hm0; simpa using this
      have HB := Lib.hid hb
      clear hb
      go_wp2_with fail
      refine (div_any a gk A' B' wr hA hB ha hm hm0).mono ?_
      rintro e w1 ⟨AQ, AR, rfl, hQ, hR, hb1⟩
      have hB1 := hB.to hb1
      have hb2 := HB.out.trans (hb1.mono HB.out.size)
      have hrl : ln (a % gk) ≤ 1099511627776 := Nat.le_trans (ln_mono (Nat.mod_le _ _)) ha
      clear hb1
      go_wp2_with fail
      go_roundg (a % gk)
      case measure => exact Nat.mod_lt _ (by omega)
      case rel => exact ⟨gk, B', AR, rfl, rfl, by
        show Nat.gcd gk (a % gk) = Nat.gcd x y
        rw [← hg.out, Nat.gcd_comm gk, ← Nat.gcd_rec, Nat.gcd_comm], hm, hrl, hB1, hR, hb2⟩
end Go.Proofs.Ytdpjknjlhchmcaa

namespace Go.Proofs.Ytdpjknjlhchmcaa
open Go.RowKit Pl
set_option linter.unusedVariables false
set_option linter.unusedSimpArgs false
/-- The sign and the magnitude of an integer. -/
def sn (z : Int) : Bool := decide (z < 0)
def ab (z : Int) : Nat := z.natAbs
/-- The integer of a sign and a magnitude. -/
def zi (s : Bool) (n : Nat) : Int := if s then -(n : Int) else n
theorem zi_ab (s : Bool) (n : Nat) : ab (zi s n) = n := by unfold ab zi; split <;> omega
theorem zi_sn (s : Bool) {n : Nat} (h : n ≠ 0) : sn (zi s n) = s := by unfold sn zi; cases s <;> simp <;> omega
theorem zi_zero (s : Bool) : zi s 0 = 0 := by unfold zi; split <;> rfl
theorem sn_zero : sn 0 = false := rfl
theorem zi_self (z : Int) : zi (sn z) (ab z) = z := by
  unfold zi sn ab
  by_cases h : z < 0
  · rw [if_pos (decide_eq_true h)]; omega
  · rw [decide_eq_false h]; simp; omega
/-- A call hands back an integer, and turns nothing that was there. -/
def RetWhole (w : World) (z : Int) (e : Ending) (w' : World) : Prop := ∃ A, e = .returned (.agg #[.bool (sn z), .slice A (ln (ab z)) (ln (ab z))]) ∧ Nat32 w' A (ab z) ∧ Below w.heap.size w w'
theorem retWhole_mk {w w' : World} {s : Bool} {n : Nat} {A : Option Addr} (h : Nat32 w' A n) (hb : Below w.heap.size w w') (c : Bool) (hc : c = (s && decide (0 < ln n))) : RetWhole w (zi s n) (.returned (.agg #[.bool c, .slice A (ln n) (ln n)])) w' := by
  refine ⟨A, ?_, by rw [zi_ab]; exact h, hb⟩
  rw [zi_ab, hc]
  by_cases hn : n = 0
  · subst hn; rw [zi_zero, sn_zero, ln_zero]; simp
  · rw [zi_sn s hn]; have := ln_pos hn; simp [this]
set_option maxHeartbeats 400000 in
theorem wholeOf_any (s : Bool) (n : Nat) (A : Option Addr) (w : World) (h : Nat32 w A n) :
    Calls Try.prog 57 #[.bool s, .slice A (ln n) (ln n)] w (RetWhole w (zi s n)) := by
  have hb : Below w.heap.size w (w.alloc (.cells #[.bool false, .slice none 0 0] 32)) := (Below.refl _ _).alloc (Nat.le_refl _) _
  have hb2 : Below w.heap.size w (w.alloc (.cells #[.bool (s && decide (0 < ln n)), .slice A (ln n) (ln n)] 32)) := (Below.refl _ _).alloc (Nat.le_refl _) _
  cases s
  · go_enter Try.func57, Try.ntmps57
    go_wp2_with fail
    exact bodyPost_ret (v := .agg #[.bool false, .slice A (ln n) (ln n)]) (by simp [results, Try.results57, go_sem]) rfl (retWhole_mk (h.alloc _) hb2 _ rfl)
  · by_cases hn : n = 0
    · have t : decide (0 < ln n) = false := by rw [hn, ln_zero]; rfl
      clear hn
      go_enter Try.func57, Try.ntmps57
      go_wp2_with fail
      exact bodyPost_ret (v := .agg #[.bool false, .slice A (ln n) (ln n)]) (by simp [results, Try.results57, go_sem]) rfl (retWhole_mk (h.alloc _) ((Below.refl _ _).alloc (Nat.le_refl _) _) _ (by rw [t]; rfl))
    · have t : decide (0 < ln n) = true := by have := ln_pos hn; simpa using this
      clear hn
      go_enter Try.func57, Try.ntmps57
      go_wp2_with fail
      exact bodyPost_ret (v := .agg #[.bool true, .slice A (ln n) (ln n)]) (by simp [results, Try.results57, go_sem]) rfl (retWhole_mk (h.alloc _) ((Below.refl _ _).alloc (Nat.le_refl _) _) _ (by rw [t]; rfl))
theorem Nat32.setBox {w : World} {A : Option Addr} {n R i : Nat} {v u : Value} (h : Nat32 w A n) (hv : w.cell? ⟨R, 0, none⟩ = some v) (hne : ∀ k m, v ≠ .int k m) : Nat32 (w.setCell ⟨R, i, none⟩ u) A n := fun hn => by
  obtain ⟨b, e, hlt, hc⟩ := h hn
  have hbR : b ≠ R := fun e2 => by
    have h0 := hc 0 (ln_pos hn)
    rw [e2, hv] at h0
    injection h0 with h0
    exact hne _ _ h0
  exact ⟨b, e, by simpa [World.setCell] using hlt, fun j hj => (World.cell?_of_block (Below.heap_setCell _ _ _ _ hbR)).trans (hc j hj)⟩
theorem cell_self {w : World} {R i : Nat} {v u : Value} (hv : w.cell? ⟨R, i, none⟩ = some v) : (w.setCell ⟨R, i, none⟩ u).cell? ⟨R, i, none⟩ = some u := World.cell?_setCell_same' _ _ _ (by simp [hv])
theorem hstep {w W w1 : World} (h : Hid (Below w.heap.size w W)) (hb : Below W.heap.size W w1) : Below w.heap.size w w1 := h.out.trans (hb.mono h.out.size)
/-- The end of a function that hands on a callee's integer: it is stored in the result's block R. -/
theorem retWhole_fin {w W : World} {z : Int} {A : Option Addr} {R : Nat} {c : Bool} (hB : Hid (Below w.heap.size w W)) (h1 : Nat32 W A (ab z)) (hR : w.heap.size ≤ R) (r0 : W.cell? ⟨R, 0, none⟩ = some (.bool c)) :
    RetWhole w z (.returned (.agg #[.bool (sn z), .slice A (ln (ab z)) (ln (ab z))])) ((W.setCell ⟨R, 0, none⟩ (.bool (sn z))).setCell ⟨R, 1, none⟩ (.slice A (ln (ab z)) (ln (ab z)))) :=
  ⟨A, rfl, (h1.setBox r0 (by intro k m e; cases e)).setBox (cell_self r0) (by intro k m e; cases e), (hB.out.setCell (by exact hR) _).setCell (by exact hR) _⟩
theorem keepc {W w1 : World} (hb : Below W.heap.size W w1) {b i : Nat} {v : Value} (h : W.cell? ⟨b, i, none⟩ = some v) (hlt : b < W.heap.size) : w1.cell? ⟨b, i, none⟩ = some v := (hb.cell (p := ⟨b, i, none⟩) hlt).trans h
theorem keepf {W w1 : World} (hb : Below W.heap.size W w1) {b i : Nat} {v : Bool} (h : W.frozen? ⟨b, i, none⟩ = v) (hlt : b < W.heap.size) : w1.frozen? ⟨b, i, none⟩ = v := (hb.frozen (p := ⟨b, i, none⟩) hlt).trans h
theorem undrew {W w1 : World} (h : Below W.drew.heap.size W.drew w1) : Below W.heap.size W w1 := ⟨h.os, h.tape, h.output, h.size, h.block⟩
theorem keeps {w : World} {b i R j : Nat} {v u : Value} (h : w.cell? ⟨b, i, none⟩ = some v) (hne : b ≠ R) : (w.setCell ⟨R, j, none⟩ u).cell? ⟨b, i, none⟩ = some v := (World.cell?_of_block (Below.heap_setCell _ _ _ _ hne)).trans h
theorem onto {W w1 w2 : World} (h : Below W.heap.size W w1) (k : Below w1.heap.size w1 w2) : Below W.heap.size W w2 := h.trans (k.mono h.size)
theorem minus_val (z : Int) : zi (!sn z) (ab z) = -z := by
  unfold zi sn ab
  by_cases h : z < 0
  · rw [decide_eq_true h]; simp; omega
  · rw [decide_eq_false h]; simp; omega
theorem plus_same {a b : Int} (h : sn a = sn b) : zi (sn a) (ab a + ab b) = a + b := by
  unfold zi sn ab at *
  by_cases h1 : a < 0
  · rw [decide_eq_true h1] at h ⊢
    have h2 : b < 0 := by simpa using h.symm
    simp; omega
  · rw [decide_eq_false h1] at h ⊢
    have h2 : ¬ b < 0 := by simpa using h.symm
    simp; omega
theorem plus_ge {a b : Int} (h : sn a ≠ sn b) (hle : ab b ≤ ab a) : zi (sn a) (ab a - ab b) = a + b := by
  unfold zi sn ab at *
  by_cases h1 : a < 0 <;> by_cases h2 : b < 0 <;> simp [h1, h2] at h ⊢ <;> omega
theorem plus_lt {a b : Int} (h : sn a ≠ sn b) (hle : ab a < ab b) : zi (sn b) (ab b - ab a) = a + b := by
  unfold zi sn ab at *
  by_cases h1 : a < 0 <;> by_cases h2 : b < 0 <;> simp [h1, h2] at h ⊢ <;> omega
set_option maxHeartbeats 4000000 in
theorem minus_any (z : Int) (A : Option Addr) (w : World) (hx : Nat32 w A (ab z)) :
    Calls Try.prog 34 #[.agg #[.bool (sn (z)), .slice A (ln (ab (z))) (ln (ab (z)))]] w (RetWhole w (-z)) := by
  rw [← minus_val]
  go_enter Try.func34, Try.ntmps34
  go_wp2_with fail
  obtain ⟨W, hW⟩ : ∃ W : World, W = ((w.alloc (.cells #[.bool (sn (z)), .slice A (ln (ab (z))) (ln (ab (z)))] 32)).alloc (.cells #[.bool false, .slice none 0 0] 32)) := ⟨_, rfl⟩
  have s0_0 : W.cell? ⟨w.heap.size, 0, none⟩ = some (.bool (sn (z))) := by subst hW; go_simp
  have s0_1 : W.cell? ⟨w.heap.size, 1, none⟩ = some (.slice A (ln (ab (z))) (ln (ab (z)))) := by subst hW; go_simp
  have r0 : W.cell? ⟨w.heap.size + 1, 0, none⟩ = some (.bool false) := by subst hW; go_simp
  have f0 : W.frozen? ⟨w.heap.size + 1, 0, none⟩ = false := by subst hW; go_simp
  have r1 : W.cell? ⟨w.heap.size + 1, 1, none⟩ = some (.slice none 0 0) := by subst hW; go_simp
  have f1 : W.frozen? ⟨w.heap.size + 1, 1, none⟩ = false := by subst hW; go_simp
  have HW : Below w.heap.size w W := by subst hW; exact (((Below.refl w.heap.size w).alloc (Nat.le_refl _) _).alloc (by simp) _)
  have l0 : w.heap.size < W.heap.size := by subst hW; simp <;> omega
  have l1 : w.heap.size + 1 < W.heap.size := by subst hW; simp
  have n0 : w.heap.size ≠ w.heap.size + 1 := by omega
  replace hx := hx.to HW
  rw [← hW]
  clear hW
  replace HW := Lib.hid HW
  refine (wholeOf_any (!sn z) (ab z) A _ (by exact hx)).mono ?_
  rintro e w1 ⟨A1, rfl, h1, hb1⟩
  replace s0_0 := keepc hb1 s0_0 l0
  replace s0_1 := keepc hb1 s0_1 l0
  replace r0 := keepc hb1 r0 l1
  replace f0 := keepf hb1 f0 l1
  replace r1 := keepc hb1 r1 l1
  replace f1 := keepf hb1 f1 l1
  replace l0 := Nat.lt_of_lt_of_le l0 hb1.size
  replace l1 := Nat.lt_of_lt_of_le l1 hb1.size
  replace hx := hx.to hb1
  replace HW := Lib.hid (hstep HW hb1)
  clear hb1
  go_wp2_with fail
  exact bodyPost_ret (v := .agg #[.bool (sn (zi (!sn z) (ab z))), .slice A1 (ln (ab (zi (!sn z) (ab z)))) (ln (ab (zi (!sn z) (ab z))))]) (by simp [results, Try.results34, go_sem, r0, r1, f0, f1]) rfl (retWhole_fin HW h1 (by omega) r0)
set_option maxHeartbeats 4000000 in
theorem plus_same_any (a b : Int) (A B : Option Addr) (w : World) (hx : Nat32 w A (ab a)) (hy : Nat32 w B (ab b)) (hbx : ln (ab a) ≤ 1099511627776) (hby : ln (ab b) ≤ 1099511627776) (h : sn a = sn b) :
    Calls Try.prog 33 #[.agg #[.bool (sn (a)), .slice A (ln (ab (a))) (ln (ab (a)))], .agg #[.bool (sn (b)), .slice B (ln (ab (b))) (ln (ab (b)))]] w (RetWhole w (a + b)) := by
  have t : (sn a == sn b) = true := by rw [h]; simp
  rw [← plus_same h]
  clear h
  go_enter Try.func33, Try.ntmps33
  go_wp2_with fail
  obtain ⟨W, hW⟩ : ∃ W : World, W = (((w.alloc (.cells #[.bool (sn (a)), .slice A (ln (ab (a))) (ln (ab (a)))] 32)).alloc (.cells #[.bool (sn (b)), .slice B (ln (ab (b))) (ln (ab (b)))] 32)).alloc (.cells #[.bool false, .slice none 0 0] 32)) := ⟨_, rfl⟩
  have s0_0 : W.cell? ⟨w.heap.size, 0, none⟩ = some (.bool (sn (a))) := by subst hW; go_simp
  have s0_1 : W.cell? ⟨w.heap.size, 1, none⟩ = some (.slice A (ln (ab (a))) (ln (ab (a)))) := by subst hW; go_simp
  have s1_0 : W.cell? ⟨w.heap.size + 1, 0, none⟩ = some (.bool (sn (b))) := by subst hW; go_simp
  have s1_1 : W.cell? ⟨w.heap.size + 1, 1, none⟩ = some (.slice B (ln (ab (b))) (ln (ab (b)))) := by subst hW; go_simp
  have r0 : W.cell? ⟨w.heap.size + 1 + 1, 0, none⟩ = some (.bool false) := by subst hW; go_simp
  have f0 : W.frozen? ⟨w.heap.size + 1 + 1, 0, none⟩ = false := by subst hW; go_simp
  have r1 : W.cell? ⟨w.heap.size + 1 + 1, 1, none⟩ = some (.slice none 0 0) := by subst hW; go_simp
  have f1 : W.frozen? ⟨w.heap.size + 1 + 1, 1, none⟩ = false := by subst hW; go_simp
  have HW : Below w.heap.size w W := by subst hW; exact ((((Below.refl w.heap.size w).alloc (Nat.le_refl _) _).alloc (by simp) _).alloc (by simp; omega) _)
  have l0 : w.heap.size < W.heap.size := by subst hW; simp <;> omega
  have l1 : w.heap.size + 1 < W.heap.size := by subst hW; simp <;> omega
  have l2 : w.heap.size + 1 + 1 < W.heap.size := by subst hW; simp
  have n0 : w.heap.size ≠ w.heap.size + 1 + 1 := by omega
  have n1 : w.heap.size + 1 ≠ w.heap.size + 1 + 1 := by omega
  replace hx := hx.to HW
  replace hy := hy.to HW
  rw [← hW]
  clear hW
  replace HW := Lib.hid HW
  go_region_held3 (fun w' => w'.cell? ⟨w.heap.size, 0, none⟩ = some (.bool (sn (a))) ∧ w'.cell? ⟨w.heap.size, 1, none⟩ = some (.slice A (ln (ab (a))) (ln (ab (a)))) ∧ w'.cell? ⟨w.heap.size + 1, 1, none⟩ = some (.slice B (ln (ab (b))) (ln (ab (b))))) (first | with_reducible exact ⟨s0_0, s0_1, s1_1⟩ | with_reducible exact ⟨(keeps (keeps s0_0 n0) n0), (keeps (keeps s0_1 n0) n0), (keeps (keeps s1_1 n1) n1)⟩ | exact ⟨s0_0, s0_1, s1_1⟩) (first
    | (go_at_call 58; refine (add_any (ab a) (ab b) A B _ (by exact hx) (by exact hy) (by omega) (by omega)).mono ?_; rintro e w1 ⟨A1, rfl, h1, hb1⟩; have hb1 := undrew hb1; replace s0_0 := keepc hb1 s0_0 l0; replace s0_1 := keepc hb1 s0_1 l0; replace s1_0 := keepc hb1 s1_0 l1; replace s1_1 := keepc hb1 s1_1 l1; replace r0 := keepc hb1 r0 l2; replace f0 := keepf hb1 f0 l2; replace r1 := keepc hb1 r1 l2; replace f1 := keepf hb1 f1 l2; replace l0 := Nat.lt_of_lt_of_le l0 hb1.size; replace l1 := Nat.lt_of_lt_of_le l1 hb1.size; replace l2 := Nat.lt_of_lt_of_le l2 hb1.size; replace hx := hx.to hb1; replace hy := hy.to hb1; replace HW := Lib.hid (hstep HW hb1); clear hb1)
    | (go_at_call 57; refine (wholeOf_any (sn a) (ab a + ab b) A1 _ (by exact h1)).mono ?_; rintro e w2 ⟨A2, rfl, h2, hb2⟩; replace s0_0 := keepc hb2 s0_0 l0; replace s0_1 := keepc hb2 s0_1 l0; replace s1_0 := keepc hb2 s1_0 l1; replace s1_1 := keepc hb2 s1_1 l1; replace r0 := keepc hb2 r0 l2; replace f0 := keepf hb2 f0 l2; replace r1 := keepc hb2 r1 l2; replace f1 := keepf hb2 f1 l2; replace l0 := Nat.lt_of_lt_of_le l0 hb2.size; replace l1 := Nat.lt_of_lt_of_le l1 hb2.size; replace l2 := Nat.lt_of_lt_of_le l2 hb2.size; replace hx := hx.to hb2; replace hy := hy.to hb2; replace h1 := h1.to hb2; replace HW := Lib.hid (hstep HW hb2); clear hb2))
  go_wp2_with fail
  exact bodyPost_ret (v := .agg #[.bool (sn (zi (sn a) (ab a + ab b))), .slice A2 (ln (ab (zi (sn a) (ab a + ab b)))) (ln (ab (zi (sn a) (ab a + ab b))))]) (by simp [results, Try.results33, go_sem, r0, r1, f0, f1]) rfl (retWhole_fin HW h2 (by omega) r0)
set_option maxHeartbeats 4000000 in
theorem plus_ge_any (a b : Int) (A B : Option Addr) (w : World) (hx : Nat32 w A (ab a)) (hy : Nat32 w B (ab b)) (hbx : ln (ab a) ≤ 1099511627776) (hby : ln (ab b) ≤ 1099511627776) (h : sn a ≠ sn b) (hle : ab b ≤ ab a) :
    Calls Try.prog 33 #[.agg #[.bool (sn (a)), .slice A (ln (ab (a))) (ln (ab (a)))], .agg #[.bool (sn (b)), .slice B (ln (ab (b))) (ln (ab (b)))]] w (RetWhole w (a + b)) := by
  have t : (sn a == sn b) = false := by simpa using h
  have t2 : decide (0 ≤ cmpN (ab a) (ab b)) = true := by rw [decide_eq_true_eq]; unfold cmpN; rw [if_neg (by omega)]; split <;> omega
  rw [← plus_ge h hle]
  have HL := Lib.hid hle
  clear h hle
  go_enter Try.func33, Try.ntmps33
  go_wp2_with fail
  obtain ⟨W, hW⟩ : ∃ W : World, W = (((w.alloc (.cells #[.bool (sn (a)), .slice A (ln (ab (a))) (ln (ab (a)))] 32)).alloc (.cells #[.bool (sn (b)), .slice B (ln (ab (b))) (ln (ab (b)))] 32)).alloc (.cells #[.bool false, .slice none 0 0] 32)) := ⟨_, rfl⟩
  have s0_0 : W.cell? ⟨w.heap.size, 0, none⟩ = some (.bool (sn (a))) := by subst hW; go_simp
  have s0_1 : W.cell? ⟨w.heap.size, 1, none⟩ = some (.slice A (ln (ab (a))) (ln (ab (a)))) := by subst hW; go_simp
  have s1_0 : W.cell? ⟨w.heap.size + 1, 0, none⟩ = some (.bool (sn (b))) := by subst hW; go_simp
  have s1_1 : W.cell? ⟨w.heap.size + 1, 1, none⟩ = some (.slice B (ln (ab (b))) (ln (ab (b)))) := by subst hW; go_simp
  have r0 : W.cell? ⟨w.heap.size + 1 + 1, 0, none⟩ = some (.bool false) := by subst hW; go_simp
  have f0 : W.frozen? ⟨w.heap.size + 1 + 1, 0, none⟩ = false := by subst hW; go_simp
  have r1 : W.cell? ⟨w.heap.size + 1 + 1, 1, none⟩ = some (.slice none 0 0) := by subst hW; go_simp
  have f1 : W.frozen? ⟨w.heap.size + 1 + 1, 1, none⟩ = false := by subst hW; go_simp
  have HW : Below w.heap.size w W := by subst hW; exact ((((Below.refl w.heap.size w).alloc (Nat.le_refl _) _).alloc (by simp) _).alloc (by simp; omega) _)
  have l0 : w.heap.size < W.heap.size := by subst hW; simp <;> omega
  have l1 : w.heap.size + 1 < W.heap.size := by subst hW; simp <;> omega
  have l2 : w.heap.size + 1 + 1 < W.heap.size := by subst hW; simp
  have n0 : w.heap.size ≠ w.heap.size + 1 + 1 := by omega
  have n1 : w.heap.size + 1 ≠ w.heap.size + 1 + 1 := by omega
  replace hx := hx.to HW
  replace hy := hy.to HW
  rw [← hW]
  clear hW
  replace HW := Lib.hid HW
  refine (cmp_any (ab a) (ab b) A B _ (by exact hx) (by exact hy) (by omega)).mono ?_
  rintro e w1 ⟨rfl, hb1⟩
  replace s0_0 := keepc hb1 s0_0 l0
  replace s0_1 := keepc hb1 s0_1 l0
  replace s1_0 := keepc hb1 s1_0 l1
  replace s1_1 := keepc hb1 s1_1 l1
  replace r0 := keepc hb1 r0 l2
  replace f0 := keepf hb1 f0 l2
  replace r1 := keepc hb1 r1 l2
  replace f1 := keepf hb1 f1 l2
  replace l0 := Nat.lt_of_lt_of_le l0 hb1.size
  replace l1 := Nat.lt_of_lt_of_le l1 hb1.size
  replace l2 := Nat.lt_of_lt_of_le l2 hb1.size
  replace hx := hx.to hb1
  replace hy := hy.to hb1
  replace HW := Lib.hid (hstep HW hb1)
  clear hb1
  go_wp2_with fail
  go_region_held3 (fun w' => w'.cell? ⟨w.heap.size, 0, none⟩ = some (.bool (sn (a))) ∧ w'.cell? ⟨w.heap.size, 1, none⟩ = some (.slice A (ln (ab (a))) (ln (ab (a)))) ∧ w'.cell? ⟨w.heap.size + 1, 1, none⟩ = some (.slice B (ln (ab (b))) (ln (ab (b))))) (first | with_reducible exact ⟨s0_0, s0_1, s1_1⟩ | with_reducible exact ⟨(keeps (keeps s0_0 n0) n0), (keeps (keeps s0_1 n0) n0), (keeps (keeps s1_1 n1) n1)⟩ | exact ⟨s0_0, s0_1, s1_1⟩) (first
    | (go_at_call 59; refine (sub_any (ab a) (ab b) A B _ (by exact hx) (by exact hy) (by omega) HL.out).mono ?_; rintro e w2 ⟨A2, rfl, h2, hb2⟩; have hb2 := undrew hb2; replace s0_0 := keepc hb2 s0_0 l0; replace s0_1 := keepc hb2 s0_1 l0; replace s1_0 := keepc hb2 s1_0 l1; replace s1_1 := keepc hb2 s1_1 l1; replace r0 := keepc hb2 r0 l2; replace f0 := keepf hb2 f0 l2; replace r1 := keepc hb2 r1 l2; replace f1 := keepf hb2 f1 l2; replace l0 := Nat.lt_of_lt_of_le l0 hb2.size; replace l1 := Nat.lt_of_lt_of_le l1 hb2.size; replace l2 := Nat.lt_of_lt_of_le l2 hb2.size; replace hx := hx.to hb2; replace hy := hy.to hb2; replace HW := Lib.hid (hstep HW hb2); clear hb2)
    | (go_at_call 57; refine (wholeOf_any (sn a) (ab a - ab b) A2 _ (by exact h2)).mono ?_; rintro e w3 ⟨A3, rfl, h3, hb3⟩; replace s0_0 := keepc hb3 s0_0 l0; replace s0_1 := keepc hb3 s0_1 l0; replace s1_0 := keepc hb3 s1_0 l1; replace s1_1 := keepc hb3 s1_1 l1; replace r0 := keepc hb3 r0 l2; replace f0 := keepf hb3 f0 l2; replace r1 := keepc hb3 r1 l2; replace f1 := keepf hb3 f1 l2; replace l0 := Nat.lt_of_lt_of_le l0 hb3.size; replace l1 := Nat.lt_of_lt_of_le l1 hb3.size; replace l2 := Nat.lt_of_lt_of_le l2 hb3.size; replace hx := hx.to hb3; replace hy := hy.to hb3; replace h2 := h2.to hb3; replace HW := Lib.hid (hstep HW hb3); clear hb3))
  go_wp2_with fail
  exact bodyPost_ret (v := .agg #[.bool (sn (zi (sn a) (ab a - ab b))), .slice A3 (ln (ab (zi (sn a) (ab a - ab b)))) (ln (ab (zi (sn a) (ab a - ab b))))]) (by simp [results, Try.results33, go_sem, r0, r1, f0, f1]) rfl (retWhole_fin HW h3 (by omega) r0)
set_option maxHeartbeats 4000000 in
theorem plus_lt_any (a b : Int) (A B : Option Addr) (w : World) (hx : Nat32 w A (ab a)) (hy : Nat32 w B (ab b)) (hbx : ln (ab a) ≤ 1099511627776) (hby : ln (ab b) ≤ 1099511627776) (h : sn a ≠ sn b) (hle : ab a < ab b) :
    Calls Try.prog 33 #[.agg #[.bool (sn (a)), .slice A (ln (ab (a))) (ln (ab (a)))], .agg #[.bool (sn (b)), .slice B (ln (ab (b))) (ln (ab (b)))]] w (RetWhole w (a + b)) := by
  have t : (sn a == sn b) = false := by simpa using h
  have t2 : decide (0 ≤ cmpN (ab a) (ab b)) = false := by rw [cmpN_lt hle]; rfl
  rw [← plus_lt h hle]
  have HL := Lib.hid (Nat.le_of_lt hle)
  clear h hle
  go_enter Try.func33, Try.ntmps33
  go_wp2_with fail
  obtain ⟨W, hW⟩ : ∃ W : World, W = (((w.alloc (.cells #[.bool (sn (a)), .slice A (ln (ab (a))) (ln (ab (a)))] 32)).alloc (.cells #[.bool (sn (b)), .slice B (ln (ab (b))) (ln (ab (b)))] 32)).alloc (.cells #[.bool false, .slice none 0 0] 32)) := ⟨_, rfl⟩
  have s0_0 : W.cell? ⟨w.heap.size, 0, none⟩ = some (.bool (sn (a))) := by subst hW; go_simp
  have s0_1 : W.cell? ⟨w.heap.size, 1, none⟩ = some (.slice A (ln (ab (a))) (ln (ab (a)))) := by subst hW; go_simp
  have s1_0 : W.cell? ⟨w.heap.size + 1, 0, none⟩ = some (.bool (sn (b))) := by subst hW; go_simp
  have s1_1 : W.cell? ⟨w.heap.size + 1, 1, none⟩ = some (.slice B (ln (ab (b))) (ln (ab (b)))) := by subst hW; go_simp
  have r0 : W.cell? ⟨w.heap.size + 1 + 1, 0, none⟩ = some (.bool false) := by subst hW; go_simp
  have f0 : W.frozen? ⟨w.heap.size + 1 + 1, 0, none⟩ = false := by subst hW; go_simp
  have r1 : W.cell? ⟨w.heap.size + 1 + 1, 1, none⟩ = some (.slice none 0 0) := by subst hW; go_simp
  have f1 : W.frozen? ⟨w.heap.size + 1 + 1, 1, none⟩ = false := by subst hW; go_simp
  have HW : Below w.heap.size w W := by subst hW; exact ((((Below.refl w.heap.size w).alloc (Nat.le_refl _) _).alloc (by simp) _).alloc (by simp; omega) _)
  have l0 : w.heap.size < W.heap.size := by subst hW; simp <;> omega
  have l1 : w.heap.size + 1 < W.heap.size := by subst hW; simp <;> omega
  have l2 : w.heap.size + 1 + 1 < W.heap.size := by subst hW; simp
  have n0 : w.heap.size ≠ w.heap.size + 1 + 1 := by omega
  have n1 : w.heap.size + 1 ≠ w.heap.size + 1 + 1 := by omega
  replace hx := hx.to HW
  replace hy := hy.to HW
  rw [← hW]
  clear hW
  replace HW := Lib.hid HW
  refine (cmp_any (ab a) (ab b) A B _ (by exact hx) (by exact hy) (by omega)).mono ?_
  rintro e w1 ⟨rfl, hb1⟩
  replace s0_0 := keepc hb1 s0_0 l0
  replace s0_1 := keepc hb1 s0_1 l0
  replace s1_0 := keepc hb1 s1_0 l1
  replace s1_1 := keepc hb1 s1_1 l1
  replace r0 := keepc hb1 r0 l2
  replace f0 := keepf hb1 f0 l2
  replace r1 := keepc hb1 r1 l2
  replace f1 := keepf hb1 f1 l2
  replace l0 := Nat.lt_of_lt_of_le l0 hb1.size
  replace l1 := Nat.lt_of_lt_of_le l1 hb1.size
  replace l2 := Nat.lt_of_lt_of_le l2 hb1.size
  replace hx := hx.to hb1
  replace hy := hy.to hb1
  replace HW := Lib.hid (hstep HW hb1)
  clear hb1
  go_wp2_with fail
  go_region_held3 (fun w' => w'.cell? ⟨w.heap.size, 1, none⟩ = some (.slice A (ln (ab (a))) (ln (ab (a)))) ∧ w'.cell? ⟨w.heap.size + 1, 0, none⟩ = some (.bool (sn (b))) ∧ w'.cell? ⟨w.heap.size + 1, 1, none⟩ = some (.slice B (ln (ab (b))) (ln (ab (b))))) (first | with_reducible exact ⟨s0_1, s1_0, s1_1⟩ | with_reducible exact ⟨(keeps (keeps s0_1 n0) n0), (keeps (keeps s1_0 n1) n1), (keeps (keeps s1_1 n1) n1)⟩ | exact ⟨s0_1, s1_0, s1_1⟩) (first
    | (go_at_call 59; refine (sub_any (ab b) (ab a) B A _ (by exact hy) (by exact hx) (by omega) HL.out).mono ?_; rintro e w2 ⟨A2, rfl, h2, hb2⟩; have hb2 := undrew hb2; replace s0_0 := keepc hb2 s0_0 l0; replace s0_1 := keepc hb2 s0_1 l0; replace s1_0 := keepc hb2 s1_0 l1; replace s1_1 := keepc hb2 s1_1 l1; replace r0 := keepc hb2 r0 l2; replace f0 := keepf hb2 f0 l2; replace r1 := keepc hb2 r1 l2; replace f1 := keepf hb2 f1 l2; replace l0 := Nat.lt_of_lt_of_le l0 hb2.size; replace l1 := Nat.lt_of_lt_of_le l1 hb2.size; replace l2 := Nat.lt_of_lt_of_le l2 hb2.size; replace hx := hx.to hb2; replace hy := hy.to hb2; replace HW := Lib.hid (hstep HW hb2); clear hb2)
    | (go_at_call 57; refine (wholeOf_any (sn b) (ab b - ab a) A2 _ (by exact h2)).mono ?_; rintro e w3 ⟨A3, rfl, h3, hb3⟩; replace s0_0 := keepc hb3 s0_0 l0; replace s0_1 := keepc hb3 s0_1 l0; replace s1_0 := keepc hb3 s1_0 l1; replace s1_1 := keepc hb3 s1_1 l1; replace r0 := keepc hb3 r0 l2; replace f0 := keepf hb3 f0 l2; replace r1 := keepc hb3 r1 l2; replace f1 := keepf hb3 f1 l2; replace l0 := Nat.lt_of_lt_of_le l0 hb3.size; replace l1 := Nat.lt_of_lt_of_le l1 hb3.size; replace l2 := Nat.lt_of_lt_of_le l2 hb3.size; replace hx := hx.to hb3; replace hy := hy.to hb3; replace h2 := h2.to hb3; replace HW := Lib.hid (hstep HW hb3); clear hb3))
  go_wp2_with fail
  exact bodyPost_ret (v := .agg #[.bool (sn (zi (sn b) (ab b - ab a))), .slice A3 (ln (ab (zi (sn b) (ab b - ab a)))) (ln (ab (zi (sn b) (ab b - ab a))))]) (by simp [results, Try.results33, go_sem, r0, r1, f0, f1]) rfl (retWhole_fin HW h3 (by omega) r0)
/-- 'x.plus(y)'. -/
theorem plus_any (a b : Int) (A B : Option Addr) (w : World) (hx : Nat32 w A (ab a)) (hy : Nat32 w B (ab b)) (hbx : ln (ab a) ≤ 1099511627776) (hby : ln (ab b) ≤ 1099511627776) :
    Calls Try.prog 33 #[.agg #[.bool (sn (a)), .slice A (ln (ab (a))) (ln (ab (a)))], .agg #[.bool (sn (b)), .slice B (ln (ab (b))) (ln (ab (b)))]] w (RetWhole w (a + b)) := by
  by_cases h : sn a = sn b
  · exact plus_same_any a b A B w hx hy hbx hby h
  · rcases Nat.lt_or_ge (ab a) (ab b) with h2 | h2
    · exact plus_lt_any a b A B w hx hy hbx hby h h2
    · exact plus_ge_any a b A B w hx hy hbx hby h h2
theorem times_val (a b : Int) : zi (sn a != sn b) (ab a * ab b) = a * b := by
  have h1 : (a : Int) = zi (sn a) (ab a) := (zi_self a).symm
  have h2 : (b : Int) = zi (sn b) (ab b) := (zi_self b).symm
  conv => rhs; rw [h1, h2]
  unfold zi
  cases sn a <;> cases sn b <;> simp [Int.neg_mul, Int.mul_neg]
theorem scaled_val (a : Int) (n : Nat) : zi (sn a) (ab a * n) = a * (n : Int) := by
  have h1 : (a : Int) = zi (sn a) (ab a) := (zi_self a).symm
  conv => rhs; rw [h1]
  unfold zi
  cases sn a <;> simp [Int.neg_mul]
set_option maxHeartbeats 4000000 in
theorem times_any (a b : Int) (A B : Option Addr) (w : World) (hx : Nat32 w A (ab a)) (hy : Nat32 w B (ab b)) (hbx : ln (ab a) ≤ 1099511627776) (hby : ln (ab b) ≤ 1099511627776) :
    Calls Try.prog 32 #[.agg #[.bool (sn (a)), .slice A (ln (ab (a))) (ln (ab (a)))], .agg #[.bool (sn (b)), .slice B (ln (ab (b))) (ln (ab (b)))]] w (RetWhole w (a * b)) := by
  rw [← times_val]
  go_enter Try.func32, Try.ntmps32
  go_wp2_with fail
  obtain ⟨W, hW⟩ : ∃ W : World, W = (((w.alloc (.cells #[.bool (sn (a)), .slice A (ln (ab (a))) (ln (ab (a)))] 32)).alloc (.cells #[.bool (sn (b)), .slice B (ln (ab (b))) (ln (ab (b)))] 32)).alloc (.cells #[.bool false, .slice none 0 0] 32)) := ⟨_, rfl⟩
  have s0_0 : W.cell? ⟨w.heap.size, 0, none⟩ = some (.bool (sn (a))) := by subst hW; go_simp
  have s0_1 : W.cell? ⟨w.heap.size, 1, none⟩ = some (.slice A (ln (ab (a))) (ln (ab (a)))) := by subst hW; go_simp
  have s1_0 : W.cell? ⟨w.heap.size + 1, 0, none⟩ = some (.bool (sn (b))) := by subst hW; go_simp
  have s1_1 : W.cell? ⟨w.heap.size + 1, 1, none⟩ = some (.slice B (ln (ab (b))) (ln (ab (b)))) := by subst hW; go_simp
  have r0 : W.cell? ⟨w.heap.size + 1 + 1, 0, none⟩ = some (.bool false) := by subst hW; go_simp
  have f0 : W.frozen? ⟨w.heap.size + 1 + 1, 0, none⟩ = false := by subst hW; go_simp
  have r1 : W.cell? ⟨w.heap.size + 1 + 1, 1, none⟩ = some (.slice none 0 0) := by subst hW; go_simp
  have f1 : W.frozen? ⟨w.heap.size + 1 + 1, 1, none⟩ = false := by subst hW; go_simp
  have HW : Below w.heap.size w W := by subst hW; exact ((((Below.refl w.heap.size w).alloc (Nat.le_refl _) _).alloc (by simp) _).alloc (by simp; omega) _)
  have l0 : w.heap.size < W.heap.size := by subst hW; simp <;> omega
  have l1 : w.heap.size + 1 < W.heap.size := by subst hW; simp <;> omega
  have l2 : w.heap.size + 1 + 1 < W.heap.size := by subst hW; simp
  have n0 : w.heap.size ≠ w.heap.size + 1 + 1 := by omega
  have n1 : w.heap.size + 1 ≠ w.heap.size + 1 + 1 := by omega
  replace hx := hx.to HW
  replace hy := hy.to HW
  rw [← hW]
  clear hW
  replace HW := Lib.hid HW
  go_region_held3 (fun w' => w'.cell? ⟨w.heap.size, 0, none⟩ = some (.bool (sn (a))) ∧ w'.cell? ⟨w.heap.size, 1, none⟩ = some (.slice A (ln (ab (a))) (ln (ab (a)))) ∧ w'.cell? ⟨w.heap.size + 1, 0, none⟩ = some (.bool (sn (b))) ∧ w'.cell? ⟨w.heap.size + 1, 1, none⟩ = some (.slice B (ln (ab (b))) (ln (ab (b))))) (first | with_reducible exact ⟨s0_0, s0_1, s1_0, s1_1⟩ | with_reducible exact ⟨(keeps (keeps s0_0 n0) n0), (keeps (keeps s0_1 n0) n0), (keeps (keeps s1_0 n1) n1), (keeps (keeps s1_1 n1) n1)⟩ | exact ⟨s0_0, s0_1, s1_0, s1_1⟩) (first
    | (go_at_call 37; refine (mul_any (ab a) (ab b) A B _ (by exact hx) (by exact hy) (by omega) (by omega)).mono ?_; rintro e w1 ⟨A1, rfl, h1, hb1⟩; have hb1 := undrew hb1; replace s0_0 := keepc hb1 s0_0 l0; replace s0_1 := keepc hb1 s0_1 l0; replace s1_0 := keepc hb1 s1_0 l1; replace s1_1 := keepc hb1 s1_1 l1; replace r0 := keepc hb1 r0 l2; replace f0 := keepf hb1 f0 l2; replace r1 := keepc hb1 r1 l2; replace f1 := keepf hb1 f1 l2; replace l0 := Nat.lt_of_lt_of_le l0 hb1.size; replace l1 := Nat.lt_of_lt_of_le l1 hb1.size; replace l2 := Nat.lt_of_lt_of_le l2 hb1.size; replace hx := hx.to hb1; replace hy := hy.to hb1; replace HW := Lib.hid (hstep HW hb1); clear hb1)
    | (go_at_call 57; refine (wholeOf_any (sn a != sn b) (ab a * ab b) A1 _ (by exact h1)).mono ?_; rintro e w2 ⟨A2, rfl, h2, hb2⟩; replace s0_0 := keepc hb2 s0_0 l0; replace s0_1 := keepc hb2 s0_1 l0; replace s1_0 := keepc hb2 s1_0 l1; replace s1_1 := keepc hb2 s1_1 l1; replace r0 := keepc hb2 r0 l2; replace f0 := keepf hb2 f0 l2; replace r1 := keepc hb2 r1 l2; replace f1 := keepf hb2 f1 l2; replace l0 := Nat.lt_of_lt_of_le l0 hb2.size; replace l1 := Nat.lt_of_lt_of_le l1 hb2.size; replace l2 := Nat.lt_of_lt_of_le l2 hb2.size; replace hx := hx.to hb2; replace hy := hy.to hb2; replace h1 := h1.to hb2; replace HW := Lib.hid (hstep HW hb2); clear hb2))
  go_wp2_with fail
  exact bodyPost_ret (v := .agg #[.bool (sn (zi (sn a != sn b) (ab a * ab b))), .slice A2 (ln (ab (zi (sn a != sn b) (ab a * ab b)))) (ln (ab (zi (sn a != sn b) (ab a * ab b))))]) (by simp [results, Try.results32, go_sem, r0, r1, f0, f1]) rfl (retWhole_fin HW h2 (by omega) r0)
set_option maxHeartbeats 4000000 in
theorem scaled_any (a : Int) (n : Nat) (A B : Option Addr) (w : World) (hx : Nat32 w A (ab a)) (hy : Nat32 w B n) (hbx : ln (ab a) ≤ 1099511627776) (hby : ln n ≤ 1099511627776) :
    Calls Try.prog 49 #[.agg #[.bool (sn (a)), .slice A (ln (ab (a))) (ln (ab (a)))], .slice B (ln n) (ln n)] w (RetWhole w (a * (n : Int))) := by
  rw [← scaled_val]
  go_enter Try.func49, Try.ntmps49
  go_wp2_with fail
  obtain ⟨W, hW⟩ : ∃ W : World, W = ((w.alloc (.cells #[.bool (sn (a)), .slice A (ln (ab (a))) (ln (ab (a)))] 32)).alloc (.cells #[.bool false, .slice none 0 0] 32)) := ⟨_, rfl⟩
  have s0_0 : W.cell? ⟨w.heap.size, 0, none⟩ = some (.bool (sn (a))) := by subst hW; go_simp
  have s0_1 : W.cell? ⟨w.heap.size, 1, none⟩ = some (.slice A (ln (ab (a))) (ln (ab (a)))) := by subst hW; go_simp
  have r0 : W.cell? ⟨w.heap.size + 1, 0, none⟩ = some (.bool false) := by subst hW; go_simp
  have f0 : W.frozen? ⟨w.heap.size + 1, 0, none⟩ = false := by subst hW; go_simp
  have r1 : W.cell? ⟨w.heap.size + 1, 1, none⟩ = some (.slice none 0 0) := by subst hW; go_simp
  have f1 : W.frozen? ⟨w.heap.size + 1, 1, none⟩ = false := by subst hW; go_simp
  have HW : Below w.heap.size w W := by subst hW; exact (((Below.refl w.heap.size w).alloc (Nat.le_refl _) _).alloc (by simp) _)
  have l0 : w.heap.size < W.heap.size := by subst hW; simp <;> omega
  have l1 : w.heap.size + 1 < W.heap.size := by subst hW; simp
  have n0 : w.heap.size ≠ w.heap.size + 1 := by omega
  replace hx := hx.to HW
  replace hy := hy.to HW
  rw [← hW]
  clear hW
  replace HW := Lib.hid HW
  go_region_held3 (fun w' => w'.cell? ⟨w.heap.size, 0, none⟩ = some (.bool (sn (a))) ∧ w'.cell? ⟨w.heap.size, 1, none⟩ = some (.slice A (ln (ab (a))) (ln (ab (a))))) (first | with_reducible exact ⟨s0_0, s0_1⟩ | with_reducible exact ⟨(keeps (keeps s0_0 n0) n0), (keeps (keeps s0_1 n0) n0)⟩ | exact ⟨s0_0, s0_1⟩) (first
    | (go_at_call 37; refine (mul_any (ab a) n A B _ (by exact hx) (by exact hy) (by omega) (by omega)).mono ?_; rintro e w1 ⟨A1, rfl, h1, hb1⟩; have hb1 := undrew hb1; replace s0_0 := keepc hb1 s0_0 l0; replace s0_1 := keepc hb1 s0_1 l0; replace r0 := keepc hb1 r0 l1; replace f0 := keepf hb1 f0 l1; replace r1 := keepc hb1 r1 l1; replace f1 := keepf hb1 f1 l1; replace l0 := Nat.lt_of_lt_of_le l0 hb1.size; replace l1 := Nat.lt_of_lt_of_le l1 hb1.size; replace hx := hx.to hb1; replace hy := hy.to hb1; replace HW := Lib.hid (hstep HW hb1); clear hb1)
    | (go_at_call 57; refine (wholeOf_any (sn a) (ab a * n) A1 _ (by exact h1)).mono ?_; rintro e w2 ⟨A2, rfl, h2, hb2⟩; replace s0_0 := keepc hb2 s0_0 l0; replace s0_1 := keepc hb2 s0_1 l0; replace r0 := keepc hb2 r0 l1; replace f0 := keepf hb2 f0 l1; replace r1 := keepc hb2 r1 l1; replace f1 := keepf hb2 f1 l1; replace l0 := Nat.lt_of_lt_of_le l0 hb2.size; replace l1 := Nat.lt_of_lt_of_le l1 hb2.size; replace hx := hx.to hb2; replace hy := hy.to hb2; replace h1 := h1.to hb2; replace HW := Lib.hid (hstep HW hb2); clear hb2))
  go_wp2_with fail
  exact bodyPost_ret (v := .agg #[.bool (sn (zi (sn a) (ab a * n))), .slice A2 (ln (ab (zi (sn a) (ab a * n)))) (ln (ab (zi (sn a) (ab a * n))))]) (by simp [results, Try.results49, go_sem, r0, r1, f0, f1]) rfl (retWhole_fin HW h2 (by omega) r0)
end Go.Proofs.Ytdpjknjlhchmcaa

namespace Go.Proofs.Ytdpjknjlhchmcaa
namespace Pl
/-- A complex number whose parts are fractions. -/
structure Cx where
  re : Rat
  im : Rat
namespace Cx
theorem ext' {x y : Cx} (h : x.re = y.re) (k : x.im = y.im) : x = y := by cases x; cases y; simp at h k; rw [h, k]
def zero : Cx := ⟨0, 0⟩
def ofInt (n : Int) : Cx := ⟨n, 0⟩
def add (x y : Cx) : Cx := ⟨x.re + y.re, x.im + y.im⟩
def neg (x : Cx) : Cx := ⟨-x.re, -x.im⟩
def sub (x y : Cx) : Cx := add x (neg y)
def mul (x y : Cx) : Cx := ⟨x.re * y.re - x.im * y.im, x.re * y.im + x.im * y.re⟩
def conj (x : Cx) : Cx := ⟨x.re, -x.im⟩
def nrm (x : Cx) : Rat := x.re * x.re + x.im * x.im
def norm (x : Cx) : Cx := ⟨nrm x, 0⟩
/-- The quotient; 0 where y is 0. -/
def div (x y : Cx) : Cx := ⟨(x.re * y.re + x.im * y.im) / nrm y, (x.im * y.re - x.re * y.im) / nrm y⟩
end Cx
/-- (a + b i)/d. -/
def fr (a b : Int) (d : Nat) : Cx := ⟨(a : Rat) / (d : Rat), (b : Rat) / (d : Rat)⟩
/-- a, b, d are the one form of z. -/
def Rep (a b : Int) (d : Nat) (z : Cx) : Prop := 0 < d ∧ Nat.gcd (Nat.gcd a.natAbs b.natAbs) d = 1 ∧ (a : Rat) = z.re * (d : Rat) ∧ (b : Rat) = z.im * (d : Rat)
theorem rat_ne {d : Nat} (h : 0 < d) : (d : Rat) ≠ 0 := by
  intro e
  have : (d : Rat) = ((0 : Nat) : Rat) := by rw [e]; rfl
  have := Rat.natCast_inj.1 this
  omega
theorem cross {a a' : Int} {d d' : Nat} {r : Rat} (h : (a : Rat) = r * (d : Rat)) (h' : (a' : Rat) = r * (d' : Rat)) : a * (d' : Int) = a' * (d : Int) := by
  apply Rat.intCast_inj.1
  rw [Rat.intCast_mul, Rat.intCast_mul, h, h', Rat.intCast_natCast, Rat.intCast_natCast]
  grind
theorem dvd_of_cross {a b a' b' : Int} {d d' : Nat} (h : a * (d' : Int) = a' * (d : Int)) (k : b * (d' : Int) = b' * (d : Int)) (hg : Nat.gcd (Nat.gcd a.natAbs b.natAbs) d = 1) : d ∣ d' := by
  have h1 : d ∣ a.natAbs * d' := by
    have : (a * (d' : Int)).natAbs = (a' * (d : Int)).natAbs := by rw [h]
    rw [Int.natAbs_mul, Int.natAbs_mul, Int.natAbs_natCast, Int.natAbs_natCast] at this
    rw [this]; exact Nat.dvd_mul_left _ _
  have h2 : d ∣ b.natAbs * d' := by
    have : (b * (d' : Int)).natAbs = (b' * (d : Int)).natAbs := by rw [k]
    rw [Int.natAbs_mul, Int.natAbs_mul, Int.natAbs_natCast, Int.natAbs_natCast] at this
    rw [this]; exact Nat.dvd_mul_left _ _
  have h3 : d ∣ d * d' := Nat.dvd_mul_right _ _
  have h4 := Nat.dvd_gcd (Nat.dvd_gcd h1 h2) h3
  rw [Nat.gcd_mul_right, Nat.gcd_mul_right, hg, Nat.one_mul] at h4
  exact h4
theorem Rep.uniq {a b a' b' : Int} {d d' : Nat} {z : Cx} (h : Rep a b d z) (k : Rep a' b' d' z) : a = a' ∧ b = b' ∧ d = d' := by
  obtain ⟨h1, h2, h3, h4⟩ := h
  obtain ⟨k1, k2, k3, k4⟩ := k
  have c1 := cross h3 k3
  have c2 := cross h4 k4
  have e : d = d' := Nat.dvd_antisymm (dvd_of_cross c1 c2 h2) (dvd_of_cross c1.symm c2.symm k2)
  subst e
  have hd : (d : Int) ≠ 0 := by omega
  exact ⟨Int.eq_of_mul_eq_mul_right hd c1, Int.eq_of_mul_eq_mul_right hd c2, rfl⟩
/-- The greatest common divisor by which a fraction is shortened. -/
def gg (a b : Int) (d : Nat) : Nat := Nat.gcd (Nat.gcd a.natAbs b.natAbs) d
theorem gg_pos (a b : Int) {d : Nat} (hd : 0 < d) : 0 < gg a b d := Nat.gcd_pos_of_pos_right _ hd
theorem gg_dvd (a b : Int) (d : Nat) : gg a b d ∣ a.natAbs ∧ gg a b d ∣ b.natAbs ∧ gg a b d ∣ d :=
  ⟨Nat.dvd_trans (Nat.gcd_dvd_left _ _) (Nat.gcd_dvd_left _ _), Nat.dvd_trans (Nat.gcd_dvd_left _ _) (Nat.gcd_dvd_right _ _), Nat.gcd_dvd_right _ _⟩
/-- An integer with the sign of a and the magnitude n. -/
def sg (a : Int) (n : Nat) : Int := if a < 0 then -(n : Int) else n
theorem sg_mul {a : Int} {g n : Nat} (h : a.natAbs = n * g) : sg a n * (g : Int) = a := by
  unfold sg
  split
  · rw [Int.neg_mul]
    have : ((n * g : Nat) : Int) = (n : Int) * (g : Int) := Int.natCast_mul _ _
    omega
  · have : ((n * g : Nat) : Int) = (n : Int) * (g : Int) := Int.natCast_mul _ _
    omega
theorem sg_abs (a : Int) (n : Nat) : (sg a n).natAbs = n := by unfold sg; split <;> omega
theorem rat_div {a' : Int} {d' g : Nat} (hd : 0 < d') (hg : 0 < g) : ((a' * (g : Int) : Int) : Rat) / ((d' * g : Nat) : Rat) = (a' : Rat) / (d' : Rat) := by
  rw [Rat.intCast_mul, Rat.natCast_mul, Rat.intCast_natCast]
  have h1 := rat_ne hd
  have h2 := rat_ne hg
  grind
/-- A fraction shortened is the one form. -/
theorem rep_fr (a b : Int) {d : Nat} (hd : 0 < d) : Rep (sg a (a.natAbs / gg a b d)) (sg b (b.natAbs / gg a b d)) (d / gg a b d) (fr a b d) := by
  obtain ⟨⟨x, hx⟩, ⟨y, hy⟩, ⟨t, ht⟩⟩ := gg_dvd a b d
  have hg := gg_pos a b hd
  have e1 : gg a b d = Nat.gcd (Nat.gcd a.natAbs b.natAbs) d := rfl
  generalize gg a b d = g at *
  have ea : a.natAbs / g = x := by rw [hx, Nat.mul_div_cancel_left _ hg]
  have eb : b.natAbs / g = y := by rw [hy, Nat.mul_div_cancel_left _ hg]
  have ed : d / g = t := by rw [ht, Nat.mul_div_cancel_left _ hg]
  have ht0 : 0 < t := by
    rcases Nat.eq_zero_or_pos t with h | h
    · subst h; simp at ht; omega
    · exact h
  have hsa := sg_mul (a := a) (g := g) (n := x) (by rw [hx, Nat.mul_comm])
  have hsb := sg_mul (a := b) (g := g) (n := y) (by rw [hy, Nat.mul_comm])
  rw [ea, eb, ed]
  refine ⟨ht0, ?_, ?_, ?_⟩
  · rw [sg_abs, sg_abs]
    rw [hx, hy, ht, Nat.gcd_mul_left, Nat.gcd_mul_left] at e1
    have : g * Nat.gcd (Nat.gcd x y) t = g * 1 := by omega
    exact Nat.eq_of_mul_eq_mul_left hg this
  · have h1 := rat_div (a' := sg a x) ht0 hg
    rw [hsa, Nat.mul_comm t g, ← ht] at h1
    have h2 := rat_ne ht0
    unfold fr
    simp only [h1]
    grind
  · have h1 := rat_div (a' := sg b y) ht0 hg
    rw [hsb, Nat.mul_comm t g, ← ht] at h1
    have h2 := rat_ne ht0
    unfold fr
    simp only [h1]
    grind
theorem fr_mk (z : Cx) : fr (z.re.num * (z.im.den : Int)) (z.im.num * (z.re.den : Int)) (z.re.den * z.im.den) = z := by
  have h1 := rat_ne (Nat.pos_of_ne_zero z.re.den_nz)
  have h2 := rat_ne (Nat.pos_of_ne_zero z.im.den_nz)
  have h3 : z.re = (z.re.num : Rat) / (z.re.den : Rat) := by
    have := Rat.num_divInt_den z.re; rw [Rat.divInt_eq_div, Rat.intCast_natCast] at this; exact this.symm
  have h4 : z.im = (z.im.num : Rat) / (z.im.den : Rat) := by
    have := Rat.num_divInt_den z.im; rw [Rat.divInt_eq_div, Rat.intCast_natCast] at this; exact this.symm
  unfold fr
  rw [Rat.intCast_mul, Rat.intCast_mul, Rat.natCast_mul, Rat.intCast_natCast, Rat.intCast_natCast]
  apply Cx.ext'
  · simp only
    conv => rhs; rw [h3]
    grind
  · simp only
    conv => rhs; rw [h4]
    grind
/-- The numerators and the denominator of the one form. -/
def na (z : Cx) : Int := sg (z.re.num * (z.im.den : Int)) ((z.re.num * (z.im.den : Int)).natAbs / gg (z.re.num * (z.im.den : Int)) (z.im.num * (z.re.den : Int)) (z.re.den * z.im.den))
def nb (z : Cx) : Int := sg (z.im.num * (z.re.den : Int)) ((z.im.num * (z.re.den : Int)).natAbs / gg (z.re.num * (z.im.den : Int)) (z.im.num * (z.re.den : Int)) (z.re.den * z.im.den))
def nd (z : Cx) : Nat := (z.re.den * z.im.den) / gg (z.re.num * (z.im.den : Int)) (z.im.num * (z.re.den : Int)) (z.re.den * z.im.den)
theorem rep (z : Cx) : Rep (na z) (nb z) (nd z) z := by
  have h := rep_fr (z.re.num * (z.im.den : Int)) (z.im.num * (z.re.den : Int)) (d := z.re.den * z.im.den) (Nat.mul_pos (Nat.pos_of_ne_zero z.re.den_nz) (Nat.pos_of_ne_zero z.im.den_nz))
  rw [fr_mk] at h
  exact h
theorem nd_pos (z : Cx) : 0 < nd z := (rep z).1
theorem na_eq (z : Cx) : (na z : Rat) = z.re * (nd z : Rat) := (rep z).2.2.1
theorem nb_eq (z : Cx) : (nb z : Rat) = z.im * (nd z : Rat) := (rep z).2.2.2
theorem nd_ne (z : Cx) : (nd z : Rat) ≠ 0 := rat_ne (nd_pos z)
theorem of_rep {a b : Int} {d : Nat} {z : Cx} (h : Rep a b d z) : na z = a ∧ nb z = b ∧ nd z = d := (rep z).uniq h
theorem fr_self (z : Cx) : fr (na z) (nb z) (nd z) = z := by
  have h1 := na_eq z
  have h2 := nb_eq z
  have h3 := nd_ne z
  unfold fr
  apply Cx.ext' <;> simp only <;> grind
/-- What 'over' makes of a fraction. -/
theorem fr_form (a b : Int) {d : Nat} (hd : 0 < d) : na (fr a b d) = sg a (a.natAbs / gg a b d) ∧ nb (fr a b d) = sg b (b.natAbs / gg a b d) ∧ nd (fr a b d) = d / gg a b d := of_rep (rep_fr a b hd)
theorem cx_inj {x y : Cx} (h : na x = na y) (k : nb x = nb y) (l : nd x = nd y) : x = y := by
  rw [← fr_self x, ← fr_self y, h, k, l]
/-- When two fractions are one number. -/
theorem fr_eq {a b : Int} {d : Nat} (hd : 0 < d) {z : Cx} (h : (a : Rat) = z.re * (d : Rat)) (k : (b : Rat) = z.im * (d : Rat)) : fr a b d = z := by
  have := rat_ne hd
  unfold fr
  apply Cx.ext' <;> simp only <;> grind
theorem add_fr (x y : Cx) : fr (na x * (nd y : Int) + na y * (nd x : Int)) (nb x * (nd y : Int) + nb y * (nd x : Int)) (nd x * nd y) = x.add y := by
  apply fr_eq (Nat.mul_pos (nd_pos x) (nd_pos y))
  · rw [Rat.intCast_add, Rat.intCast_mul, Rat.intCast_mul, Rat.natCast_mul, na_eq, na_eq, Rat.intCast_natCast, Rat.intCast_natCast]
    simp only [Cx.add]; grind
  · rw [Rat.intCast_add, Rat.intCast_mul, Rat.intCast_mul, Rat.natCast_mul, nb_eq, nb_eq, Rat.intCast_natCast, Rat.intCast_natCast]
    simp only [Cx.add]; grind
theorem mul_fr (x y : Cx) : fr (na x * na y - nb x * nb y) (na x * nb y + nb x * na y) (nd x * nd y) = x.mul y := by
  apply fr_eq (Nat.mul_pos (nd_pos x) (nd_pos y))
  · rw [Rat.intCast_sub, Rat.intCast_mul, Rat.intCast_mul, Rat.natCast_mul, na_eq, na_eq, nb_eq, nb_eq]
    simp only [Cx.mul]; grind
  · rw [Rat.intCast_add, Rat.intCast_mul, Rat.intCast_mul, Rat.natCast_mul, na_eq, na_eq, nb_eq, nb_eq]
    simp only [Cx.mul]; grind
theorem neg_form (x : Cx) : na x.neg = -na x ∧ nb x.neg = -nb x ∧ nd x.neg = nd x := by
  apply of_rep
  obtain ⟨h1, h2, h3, h4⟩ := rep x
  refine ⟨h1, by rw [Int.natAbs_neg, Int.natAbs_neg]; exact h2, ?_, ?_⟩
  · rw [Rat.intCast_neg, h3]; simp only [Cx.neg]; grind
  · rw [Rat.intCast_neg, h4]; simp only [Cx.neg]; grind
theorem conj_form (x : Cx) : na x.conj = na x ∧ nb x.conj = -nb x ∧ nd x.conj = nd x := by
  apply of_rep
  obtain ⟨h1, h2, h3, h4⟩ := rep x
  refine ⟨h1, by rw [Int.natAbs_neg]; exact h2, ?_, ?_⟩
  · rw [h3]; simp only [Cx.conj]
  · rw [Rat.intCast_neg, h4]; simp only [Cx.conj]; grind
theorem norm_fr (x : Cx) : fr (na x * na x + nb x * nb x) 0 (nd x * nd x) = x.norm := by
  apply fr_eq (Nat.mul_pos (nd_pos x) (nd_pos x))
  · rw [Rat.intCast_add, Rat.intCast_mul, Rat.intCast_mul, Rat.natCast_mul, na_eq, nb_eq]
    simp only [Cx.norm, Cx.nrm]; grind
  · simp only [Cx.norm]; grind
theorem ofInt_form (n : Int) : na (Cx.ofInt n) = n ∧ nb (Cx.ofInt n) = 0 ∧ nd (Cx.ofInt n) = 1 := by
  apply of_rep
  refine ⟨by omega, by simp, ?_, ?_⟩
  · simp only [Cx.ofInt]
    show (n : Rat) = (n : Rat) * ((1 : Nat) : Rat)
    have : ((1 : Nat) : Rat) = 1 := rfl
    rw [this]; grind
  · simp only [Cx.ofInt]
    have : ((0 : Int) : Rat) = 0 := rfl
    rw [this]; grind
theorem zero_iff (x : Cx) : (na x = 0 ∧ nb x = 0) ↔ x = Cx.zero := by
  constructor
  · rintro ⟨h, k⟩
    have h1 := na_eq x
    have h2 := nb_eq x
    have h3 := nd_ne x
    rw [h] at h1; rw [k] at h2
    have e : ((0 : Int) : Rat) = 0 := rfl
    rw [e] at h1 h2
    apply Cx.ext' <;> simp only [Cx.zero] <;> grind
  · rintro rfl
    have := ofInt_form 0
    have e : Cx.ofInt 0 = Cx.zero := rfl
    rw [e] at this
    exact ⟨this.1, this.2.1⟩
end Pl
end Go.Proofs.Ytdpjknjlhchmcaa

namespace Go.Proofs.Ytdpjknjlhchmcaa
open Go.RowKit Pl
set_option linter.unusedVariables false
set_option linter.unusedSimpArgs false
/-- The denominator as it is kept: none for 1. -/
def un (q : Cx) : Nat := if nd q = 1 then 0 else nd q
/-- The three numbers of a Num. -/
def Num3 (w : World) (A1 A2 A3 : Option Addr) (q : Cx) : Prop := Nat32 w A1 (ab (na q)) ∧ Nat32 w A2 (ab (nb q)) ∧ Nat32 w A3 (un q)
theorem Num3.to {w w' : World} {A1 A2 A3 : Option Addr} {q : Cx} (h : Num3 w A1 A2 A3 q) (hb : Below w.heap.size w w') : Num3 w' A1 A2 A3 q := ⟨h.1.to hb, h.2.1.to hb, h.2.2.to hb⟩
theorem Num3.setBox {w : World} {A1 A2 A3 : Option Addr} {q : Cx} {R i : Nat} {v u : Value} (h : Num3 w A1 A2 A3 q) (hv : w.cell? ⟨R, 0, none⟩ = some v) (hne : ∀ k m, v ≠ .int k m) : Num3 (w.setCell ⟨R, i, none⟩ u) A1 A2 A3 q :=
  ⟨h.1.setBox hv hne, h.2.1.setBox hv hne, h.2.2.setBox hv hne⟩
/-- A call hands back a Num, and turns nothing that was there. -/
def RetNum (w : World) (q : Cx) (e : Ending) (w' : World) : Prop := ∃ A1 A2 A3, e = .returned (.agg #[.bool (sn (na q)), .slice A1 (ln (ab (na q))) (ln (ab (na q))), .bool (sn (nb q)), .slice A2 (ln (ab (nb q))) (ln (ab (nb q))), .slice A3 (ln (un q)) (ln (un q))]) ∧ Num3 w' A1 A2 A3 q ∧ Below w.heap.size w w'
theorem keepo {w : World} {b i R j : Nat} {v u : Value} (h : w.cell? ⟨b, i, none⟩ = some v) (hne : b ≠ R ∨ i ≠ j) : (w.setCell ⟨R, j, none⟩ u).cell? ⟨b, i, none⟩ = some v :=
  (World.cell?_setCell_other _ _ _ _ (by intro e; injection e with e1 e2; rcases hne with h | h <;> omega)).trans h
theorem keepof {w : World} {b i R j : Nat} {v : Bool} {u : Value} (h : w.frozen? ⟨b, i, none⟩ = v) : (w.setCell ⟨R, j, none⟩ u).frozen? ⟨b, i, none⟩ = v := by
  rw [← h]; simp
theorem retNum_fin {w W : World} {q : Cx} {A1 A2 A3 : Option Addr} {R : Nat} {c : Bool} (hB : Hid (Below w.heap.size w W)) (h1 : Num3 W A1 A2 A3 q) (hR : w.heap.size ≤ R) (r0 : W.cell? ⟨R, 0, none⟩ = some (.bool c)) :
    RetNum w q (.returned (.agg #[.bool (sn (na q)), .slice A1 (ln (ab (na q))) (ln (ab (na q))), .bool (sn (nb q)), .slice A2 (ln (ab (nb q))) (ln (ab (nb q))), .slice A3 (ln (un q)) (ln (un q))]))
      (((((W.setCell ⟨R, 0, none⟩ (.bool (sn (na q)))).setCell ⟨R, 1, none⟩ (.slice A1 (ln (ab (na q))) (ln (ab (na q))))).setCell ⟨R, 2, none⟩ (.bool (sn (nb q)))).setCell ⟨R, 3, none⟩ (.slice A2 (ln (ab (nb q))) (ln (ab (nb q))))).setCell ⟨R, 4, none⟩ (.slice A3 (ln (un q)) (ln (un q)))) := by
  have c1 := cell_self (u := .bool (sn (na q))) r0
  have c2 := keepo (R := R) (j := 1) (u := .slice A1 (ln (ab (na q))) (ln (ab (na q)))) c1 (by simp)
  have c3 := keepo (R := R) (j := 2) (u := .bool (sn (nb q))) c2 (by simp)
  have c4 := keepo (R := R) (j := 3) (u := .slice A2 (ln (ab (nb q))) (ln (ab (nb q)))) c3 (by simp)
  have nb : ∀ (b : Bool) k m, Value.bool b ≠ .int k m := by intro b k m e; cases e
  exact ⟨A1, A2, A3, rfl, ((((h1.setBox r0 (nb _)).setBox c1 (nb _)).setBox c2 (nb _)).setBox c3 (nb _)).setBox c4 (nb _),
    ((((hB.out.setCell (by exact hR) _).setCell (by exact hR) _).setCell (by exact hR) _).setCell (by exact hR) _).setCell (by exact hR) _⟩
/-- What 'over' leaves is the one form of the fraction. -/
theorem over_form {a b : Int} {d : Nat} (hd : d ≠ 0) : sn (na (fr a b d)) = sn a ∧ ab (na (fr a b d)) = ab a / gg a b d ∧ sn (nb (fr a b d)) = sn b ∧ ab (nb (fr a b d)) = ab b / gg a b d ∧ nd (fr a b d) = d / gg a b d := by
  obtain ⟨h1, h2, h3⟩ := fr_form a b (d := d) (by omega)
  have hg := gg_pos a b (d := d) (by omega)
  obtain ⟨g1, g2, g3⟩ := gg_dvd a b d
  have key : ∀ x : Int, gg a b d ∣ x.natAbs → sn (sg x (x.natAbs / gg a b d)) = sn x ∧ ab (sg x (x.natAbs / gg a b d)) = ab x / gg a b d := by
    intro x hx
    refine ⟨?_, by unfold ab; rw [sg_abs]⟩
    unfold sn sg
    by_cases hx0 : x < 0
    · have : 0 < x.natAbs / gg a b d := Nat.div_pos (Nat.le_of_dvd (by omega) hx) hg
      rw [if_pos hx0, decide_eq_true hx0, decide_eq_true_eq]; omega
    · rw [if_neg hx0, decide_eq_false hx0, decide_eq_false_iff_not]
      generalize x.natAbs / gg a b d = z
      omega
  rw [h1, h2, h3]
  exact ⟨(key a g1).1, (key a g1).2, (key b g2).1, (key b g2).2, rfl⟩
/-- The end of 'over'. -/
theorem retNum_over {w W : World} {a b : Int} {d g : Nat} (hd : d ≠ 0) (hg : g = gg a b d) {A1 A2 A3 : Option Addr} {R : Nat} {c : Bool} (hB : Hid (Below w.heap.size w W)) (h1 : Nat32 W A1 (ab a / g)) (h2 : Nat32 W A2 (ab b / g)) (h3 : Nat32 W A3 (if d / g = 1 then 0 else d / g))
    (hR : w.heap.size ≤ R) (r0 : W.cell? ⟨R, 0, none⟩ = some (.bool c)) (m1 m2 m3 : Nat) (e1 : m1 = ln (ab a / g)) (e2 : m2 = ln (ab b / g)) (e3 : m3 = ln (if d / g = 1 then 0 else d / g)) :
    RetNum w (fr a b d) (.returned (.agg #[.bool (sn a), .slice A1 m1 m1, .bool (sn b), .slice A2 m2 m2, .slice A3 m3 m3]))
      (((((W.setCell ⟨R, 0, none⟩ (.bool (sn a))).setCell ⟨R, 1, none⟩ (.slice A1 m1 m1)).setCell ⟨R, 2, none⟩ (.bool (sn b))).setCell ⟨R, 3, none⟩ (.slice A2 m2 m2)).setCell ⟨R, 4, none⟩ (.slice A3 m3 m3)) := by
  obtain ⟨f1, f2, f3, f4, f5⟩ := over_form (a := a) (b := b) hd
  subst hg
  have e : un (fr a b d) = if d / gg a b d = 1 then 0 else d / gg a b d := by unfold un; rw [f5]
  have := retNum_fin (q := fr a b d) (A1 := A1) (A2 := A2) (A3 := A3) hB ⟨by rw [f2]; exact h1, by rw [f4]; exact h2, by rw [e]; exact h3⟩ hR r0
  rw [f1, f2, f3, f4, e, ← e1, ← e2, ← e3] at this
  exact this
theorem gcd_ln {a b K : Nat} (ha : ln a ≤ K) (hb : ln b ≤ K) : ln (Nat.gcd a b) ≤ K := by
  by_cases h : b = 0
  · rw [h, Nat.gcd_zero_right]; exact ha
  · exact Nat.le_trans (ln_mono (Nat.gcd_le_right _ (by omega))) hb
set_option maxHeartbeats 4000000 in
theorem over_00 (a b : Int) (d : Nat) (A B D : Option Addr) (w : World) (hx : Nat32 w A (ab a)) (hy : Nat32 w B (ab b)) (hd : Nat32 w D d) (hbx : ln (ab a) ≤ 1099511627776) (hby : ln (ab b) ≤ 1099511627776) (hbd : ln d ≤ 1099511627776) (hd0 : d ≠ 0) (g : Nat) (hg : g = gg a b d) (hg1 : g = 1) (h1 : d / g ≠ 1) :
    Calls Try.prog 35 #[.agg #[.bool (sn (a)), .slice A (ln (ab (a))) (ln (ab (a)))], .agg #[.bool (sn (b)), .slice B (ln (ab (b))) (ln (ab (b)))], .slice D (ln d) (ln d)] w (RetNum w (fr a b d)) := by
  have g0 : 0 < g := by rw [hg]; exact gg_pos a b (by omega)
  have t : decide (g = 1) = true := by simpa using hg1
  have t1 : decide (d / g = 1) = false := by simpa using h1
  have HG := Lib.hid hg
  have hgl : ln g ≤ 1099511627776 := Nat.le_trans (ln_mono (Nat.le_of_dvd (by omega) (by rw [hg]; exact (gg_dvd a b d).2.2))) hbd
  have H1 := Lib.hid h1
  have HG1 := Lib.hid hg1
  have T1 := Lib.hid t1
  clear hg hg1 h1 t1
  go_enter Try.func35, Try.ntmps35
  go_wp2_with fail
  obtain ⟨W, hW⟩ : ∃ W : World, W = (((w.alloc (.cells #[.bool (sn (a)), .slice A (ln (ab (a))) (ln (ab (a)))] 32)).alloc (.cells #[.bool (sn (b)), .slice B (ln (ab (b))) (ln (ab (b)))] 32)).alloc (.cells #[.bool false, .slice none 0 0, .bool false, .slice none 0 0, .slice none 0 0] 34)) := ⟨_, rfl⟩
  have s0_0 : W.cell? ⟨w.heap.size, 0, none⟩ = some (.bool (sn (a))) := by subst hW; go_simp
  have g0_0 : W.frozen? ⟨w.heap.size, 0, none⟩ = false := by subst hW; go_simp
  have s0_1 : W.cell? ⟨w.heap.size, 1, none⟩ = some (.slice A (ln (ab (a))) (ln (ab (a)))) := by subst hW; go_simp
  have g0_1 : W.frozen? ⟨w.heap.size, 1, none⟩ = false := by subst hW; go_simp
  have s1_0 : W.cell? ⟨w.heap.size + 1, 0, none⟩ = some (.bool (sn (b))) := by subst hW; go_simp
  have g1_0 : W.frozen? ⟨w.heap.size + 1, 0, none⟩ = false := by subst hW; go_simp
  have s1_1 : W.cell? ⟨w.heap.size + 1, 1, none⟩ = some (.slice B (ln (ab (b))) (ln (ab (b)))) := by subst hW; go_simp
  have g1_1 : W.frozen? ⟨w.heap.size + 1, 1, none⟩ = false := by subst hW; go_simp
  have r0 : W.cell? ⟨w.heap.size + 1 + 1, 0, none⟩ = some (.bool false) := by subst hW; go_simp
  have f0 : W.frozen? ⟨w.heap.size + 1 + 1, 0, none⟩ = false := by subst hW; go_simp
  have r1 : W.cell? ⟨w.heap.size + 1 + 1, 1, none⟩ = some (.slice none 0 0) := by subst hW; go_simp
  have f1 : W.frozen? ⟨w.heap.size + 1 + 1, 1, none⟩ = false := by subst hW; go_simp
  have r2 : W.cell? ⟨w.heap.size + 1 + 1, 2, none⟩ = some (.bool false) := by subst hW; go_simp
  have f2 : W.frozen? ⟨w.heap.size + 1 + 1, 2, none⟩ = false := by subst hW; go_simp
  have r3 : W.cell? ⟨w.heap.size + 1 + 1, 3, none⟩ = some (.slice none 0 0) := by subst hW; go_simp
  have f3 : W.frozen? ⟨w.heap.size + 1 + 1, 3, none⟩ = false := by subst hW; go_simp
  have r4 : W.cell? ⟨w.heap.size + 1 + 1, 4, none⟩ = some (.slice none 0 0) := by subst hW; go_simp
  have f4 : W.frozen? ⟨w.heap.size + 1 + 1, 4, none⟩ = false := by subst hW; go_simp
  have HW : Below w.heap.size w W := by subst hW; exact ((((Below.refl w.heap.size w).alloc (Nat.le_refl _) _).alloc (by simp) _).alloc (by simp; omega) _)
  have l0 : w.heap.size < W.heap.size := by subst hW; simp <;> omega
  have l1 : w.heap.size + 1 < W.heap.size := by subst hW; simp <;> omega
  have l2 : w.heap.size + 1 + 1 < W.heap.size := by subst hW; simp
  have n0 : w.heap.size ≠ w.heap.size + 1 + 1 := by omega
  have n1 : w.heap.size + 1 ≠ w.heap.size + 1 + 1 := by omega
  replace hx := hx.to HW
  replace hy := hy.to HW
  replace hd := hd.to HW
  rw [← hW]
  clear hW
  replace HW := Lib.hid HW
  refine (gcd_any (ab a) (ab b) A B _ (by exact hx) (by exact hy) hbx hby).mono ?_
  rintro e w1 ⟨A1, rfl, h1, hb1⟩
  replace s0_0 := keepc hb1 s0_0 l0
  replace g0_0 := keepf hb1 g0_0 l0
  replace s0_1 := keepc hb1 s0_1 l0
  replace g0_1 := keepf hb1 g0_1 l0
  replace s1_0 := keepc hb1 s1_0 l1
  replace g1_0 := keepf hb1 g1_0 l1
  replace s1_1 := keepc hb1 s1_1 l1
  replace g1_1 := keepf hb1 g1_1 l1
  replace r0 := keepc hb1 r0 l2
  replace f0 := keepf hb1 f0 l2
  replace r1 := keepc hb1 r1 l2
  replace f1 := keepf hb1 f1 l2
  replace r2 := keepc hb1 r2 l2
  replace f2 := keepf hb1 f2 l2
  replace r3 := keepc hb1 r3 l2
  replace f3 := keepf hb1 f3 l2
  replace r4 := keepc hb1 r4 l2
  replace f4 := keepf hb1 f4 l2
  replace l0 := Nat.lt_of_lt_of_le l0 hb1.size
  replace l1 := Nat.lt_of_lt_of_le l1 hb1.size
  replace l2 := Nat.lt_of_lt_of_le l2 hb1.size
  replace hx := hx.to hb1
  replace hy := hy.to hb1
  replace hd := hd.to hb1
  replace HW := Lib.hid (hstep HW hb1)
  clear hb1
  go_wp2_with fail
  have hl1 : ln (Nat.gcd (ab a) (ab b)) ≤ 1099511627776 := gcd_ln hbx hby
  refine (gcd_any (Nat.gcd (ab a) (ab b)) d A1 D _ (by exact h1) (by exact hd) hl1 hbd).mono ?_
  rintro e w2 ⟨A2, rfl, h2, hb2⟩
  replace s0_0 := keepc hb2 s0_0 l0
  replace g0_0 := keepf hb2 g0_0 l0
  replace s0_1 := keepc hb2 s0_1 l0
  replace g0_1 := keepf hb2 g0_1 l0
  replace s1_0 := keepc hb2 s1_0 l1
  replace g1_0 := keepf hb2 g1_0 l1
  replace s1_1 := keepc hb2 s1_1 l1
  replace g1_1 := keepf hb2 g1_1 l1
  replace r0 := keepc hb2 r0 l2
  replace f0 := keepf hb2 f0 l2
  replace r1 := keepc hb2 r1 l2
  replace f1 := keepf hb2 f1 l2
  replace r2 := keepc hb2 r2 l2
  replace f2 := keepf hb2 f2 l2
  replace r3 := keepc hb2 r3 l2
  replace f3 := keepf hb2 f3 l2
  replace r4 := keepc hb2 r4 l2
  replace f4 := keepf hb2 f4 l2
  replace l0 := Nat.lt_of_lt_of_le l0 hb2.size
  replace l1 := Nat.lt_of_lt_of_le l1 hb2.size
  replace l2 := Nat.lt_of_lt_of_le l2 hb2.size
  replace hx := hx.to hb2
  replace hy := hy.to hb2
  replace hd := hd.to hb2
  replace h1 := h1.to hb2
  replace HW := Lib.hid (hstep HW hb2)
  clear hb2
  rw [show Nat.gcd (Nat.gcd (ab a) (ab b)) d = g from HG.out.symm] at h2 ⊢
  go_wp2_with fail
  refine (one_any g A2 _ (by exact h2)).mono ?_
  rintro e w3 ⟨rfl, rfl⟩
  go_wp2_with fail
  have t1 := T1.out
  rw [HG1.out, Nat.div_one] at t1
  refine (one_any (d) D _ (by exact hd)).mono ?_
  rintro e w4 ⟨rfl, rfl⟩
  go_wp2_with fail
  have hone := H1.out
  exact bodyPost_ret (v := .agg #[.bool (sn a), .slice A (ln (ab a)) (ln (ab a)), .bool (sn b), .slice B (ln (ab b)) (ln (ab b)), .slice D (ln (d)) (ln (d))]) (by simp [results, Try.results35, go_sem, r0, r1, r2, r3, r4, f0, f1, f2, f3, f4]) rfl (retNum_over hd0 HG.out HW (by rw [HG1.out, Nat.div_one]; exact hx) (by rw [HG1.out, Nat.div_one]; exact hy) (by rw [if_neg hone]; rw [HG1.out, Nat.div_one]; exact hd) (by omega) r0 _ _ _ (by rw [HG1.out, Nat.div_one]) (by rw [HG1.out, Nat.div_one]) (by rw [if_neg hone, HG1.out, Nat.div_one]))
set_option maxHeartbeats 4000000 in
theorem over_01 (a b : Int) (d : Nat) (A B D : Option Addr) (w : World) (hx : Nat32 w A (ab a)) (hy : Nat32 w B (ab b)) (hd : Nat32 w D d) (hbx : ln (ab a) ≤ 1099511627776) (hby : ln (ab b) ≤ 1099511627776) (hbd : ln d ≤ 1099511627776) (hd0 : d ≠ 0) (g : Nat) (hg : g = gg a b d) (hg1 : g = 1) (h1 : d / g = 1) :
    Calls Try.prog 35 #[.agg #[.bool (sn (a)), .slice A (ln (ab (a))) (ln (ab (a)))], .agg #[.bool (sn (b)), .slice B (ln (ab (b))) (ln (ab (b)))], .slice D (ln d) (ln d)] w (RetNum w (fr a b d)) := by
  have g0 : 0 < g := by rw [hg]; exact gg_pos a b (by omega)
  have t : decide (g = 1) = true := by simpa using hg1
  have t1 : decide (d / g = 1) = true := by simpa using h1
  have HG := Lib.hid hg
  have hgl : ln g ≤ 1099511627776 := Nat.le_trans (ln_mono (Nat.le_of_dvd (by omega) (by rw [hg]; exact (gg_dvd a b d).2.2))) hbd
  have H1 := Lib.hid h1
  have HG1 := Lib.hid hg1
  have T1 := Lib.hid t1
  clear hg hg1 h1 t1
  go_enter Try.func35, Try.ntmps35
  go_wp2_with fail
  obtain ⟨W, hW⟩ : ∃ W : World, W = (((w.alloc (.cells #[.bool (sn (a)), .slice A (ln (ab (a))) (ln (ab (a)))] 32)).alloc (.cells #[.bool (sn (b)), .slice B (ln (ab (b))) (ln (ab (b)))] 32)).alloc (.cells #[.bool false, .slice none 0 0, .bool false, .slice none 0 0, .slice none 0 0] 34)) := ⟨_, rfl⟩
  have s0_0 : W.cell? ⟨w.heap.size, 0, none⟩ = some (.bool (sn (a))) := by subst hW; go_simp
  have g0_0 : W.frozen? ⟨w.heap.size, 0, none⟩ = false := by subst hW; go_simp
  have s0_1 : W.cell? ⟨w.heap.size, 1, none⟩ = some (.slice A (ln (ab (a))) (ln (ab (a)))) := by subst hW; go_simp
  have g0_1 : W.frozen? ⟨w.heap.size, 1, none⟩ = false := by subst hW; go_simp
  have s1_0 : W.cell? ⟨w.heap.size + 1, 0, none⟩ = some (.bool (sn (b))) := by subst hW; go_simp
  have g1_0 : W.frozen? ⟨w.heap.size + 1, 0, none⟩ = false := by subst hW; go_simp
  have s1_1 : W.cell? ⟨w.heap.size + 1, 1, none⟩ = some (.slice B (ln (ab (b))) (ln (ab (b)))) := by subst hW; go_simp
  have g1_1 : W.frozen? ⟨w.heap.size + 1, 1, none⟩ = false := by subst hW; go_simp
  have r0 : W.cell? ⟨w.heap.size + 1 + 1, 0, none⟩ = some (.bool false) := by subst hW; go_simp
  have f0 : W.frozen? ⟨w.heap.size + 1 + 1, 0, none⟩ = false := by subst hW; go_simp
  have r1 : W.cell? ⟨w.heap.size + 1 + 1, 1, none⟩ = some (.slice none 0 0) := by subst hW; go_simp
  have f1 : W.frozen? ⟨w.heap.size + 1 + 1, 1, none⟩ = false := by subst hW; go_simp
  have r2 : W.cell? ⟨w.heap.size + 1 + 1, 2, none⟩ = some (.bool false) := by subst hW; go_simp
  have f2 : W.frozen? ⟨w.heap.size + 1 + 1, 2, none⟩ = false := by subst hW; go_simp
  have r3 : W.cell? ⟨w.heap.size + 1 + 1, 3, none⟩ = some (.slice none 0 0) := by subst hW; go_simp
  have f3 : W.frozen? ⟨w.heap.size + 1 + 1, 3, none⟩ = false := by subst hW; go_simp
  have r4 : W.cell? ⟨w.heap.size + 1 + 1, 4, none⟩ = some (.slice none 0 0) := by subst hW; go_simp
  have f4 : W.frozen? ⟨w.heap.size + 1 + 1, 4, none⟩ = false := by subst hW; go_simp
  have HW : Below w.heap.size w W := by subst hW; exact ((((Below.refl w.heap.size w).alloc (Nat.le_refl _) _).alloc (by simp) _).alloc (by simp; omega) _)
  have l0 : w.heap.size < W.heap.size := by subst hW; simp <;> omega
  have l1 : w.heap.size + 1 < W.heap.size := by subst hW; simp <;> omega
  have l2 : w.heap.size + 1 + 1 < W.heap.size := by subst hW; simp
  have n0 : w.heap.size ≠ w.heap.size + 1 + 1 := by omega
  have n1 : w.heap.size + 1 ≠ w.heap.size + 1 + 1 := by omega
  replace hx := hx.to HW
  replace hy := hy.to HW
  replace hd := hd.to HW
  rw [← hW]
  clear hW
  replace HW := Lib.hid HW
  refine (gcd_any (ab a) (ab b) A B _ (by exact hx) (by exact hy) hbx hby).mono ?_
  rintro e w1 ⟨A1, rfl, h1, hb1⟩
  replace s0_0 := keepc hb1 s0_0 l0
  replace g0_0 := keepf hb1 g0_0 l0
  replace s0_1 := keepc hb1 s0_1 l0
  replace g0_1 := keepf hb1 g0_1 l0
  replace s1_0 := keepc hb1 s1_0 l1
  replace g1_0 := keepf hb1 g1_0 l1
  replace s1_1 := keepc hb1 s1_1 l1
  replace g1_1 := keepf hb1 g1_1 l1
  replace r0 := keepc hb1 r0 l2
  replace f0 := keepf hb1 f0 l2
  replace r1 := keepc hb1 r1 l2
  replace f1 := keepf hb1 f1 l2
  replace r2 := keepc hb1 r2 l2
  replace f2 := keepf hb1 f2 l2
  replace r3 := keepc hb1 r3 l2
  replace f3 := keepf hb1 f3 l2
  replace r4 := keepc hb1 r4 l2
  replace f4 := keepf hb1 f4 l2
  replace l0 := Nat.lt_of_lt_of_le l0 hb1.size
  replace l1 := Nat.lt_of_lt_of_le l1 hb1.size
  replace l2 := Nat.lt_of_lt_of_le l2 hb1.size
  replace hx := hx.to hb1
  replace hy := hy.to hb1
  replace hd := hd.to hb1
  replace HW := Lib.hid (hstep HW hb1)
  clear hb1
  go_wp2_with fail
  have hl1 : ln (Nat.gcd (ab a) (ab b)) ≤ 1099511627776 := gcd_ln hbx hby
  refine (gcd_any (Nat.gcd (ab a) (ab b)) d A1 D _ (by exact h1) (by exact hd) hl1 hbd).mono ?_
  rintro e w2 ⟨A2, rfl, h2, hb2⟩
  replace s0_0 := keepc hb2 s0_0 l0
  replace g0_0 := keepf hb2 g0_0 l0
  replace s0_1 := keepc hb2 s0_1 l0
  replace g0_1 := keepf hb2 g0_1 l0
  replace s1_0 := keepc hb2 s1_0 l1
  replace g1_0 := keepf hb2 g1_0 l1
  replace s1_1 := keepc hb2 s1_1 l1
  replace g1_1 := keepf hb2 g1_1 l1
  replace r0 := keepc hb2 r0 l2
  replace f0 := keepf hb2 f0 l2
  replace r1 := keepc hb2 r1 l2
  replace f1 := keepf hb2 f1 l2
  replace r2 := keepc hb2 r2 l2
  replace f2 := keepf hb2 f2 l2
  replace r3 := keepc hb2 r3 l2
  replace f3 := keepf hb2 f3 l2
  replace r4 := keepc hb2 r4 l2
  replace f4 := keepf hb2 f4 l2
  replace l0 := Nat.lt_of_lt_of_le l0 hb2.size
  replace l1 := Nat.lt_of_lt_of_le l1 hb2.size
  replace l2 := Nat.lt_of_lt_of_le l2 hb2.size
  replace hx := hx.to hb2
  replace hy := hy.to hb2
  replace hd := hd.to hb2
  replace h1 := h1.to hb2
  replace HW := Lib.hid (hstep HW hb2)
  clear hb2
  rw [show Nat.gcd (Nat.gcd (ab a) (ab b)) d = g from HG.out.symm] at h2 ⊢
  go_wp2_with fail
  refine (one_any g A2 _ (by exact h2)).mono ?_
  rintro e w3 ⟨rfl, rfl⟩
  go_wp2_with fail
  have t1 := T1.out
  rw [HG1.out, Nat.div_one] at t1
  refine (one_any (d) D _ (by exact hd)).mono ?_
  rintro e w4 ⟨rfl, rfl⟩
  go_wp2_with fail
  have hone := H1.out
  exact bodyPost_ret (v := .agg #[.bool (sn a), .slice A (ln (ab a)) (ln (ab a)), .bool (sn b), .slice B (ln (ab b)) (ln (ab b)), .slice none 0 0]) (by simp [results, Try.results35, go_sem, r0, r1, r2, r3, r4, f0, f1, f2, f3, f4]) rfl (retNum_over hd0 HG.out HW (by rw [HG1.out, Nat.div_one]; exact hx) (by rw [HG1.out, Nat.div_one]; exact hy) (by rw [if_pos hone]; exact Nat32.zero _ _) (by omega) r0 _ _ _ (by rw [HG1.out, Nat.div_one]) (by rw [HG1.out, Nat.div_one]) (by rw [if_pos hone, ln_zero]))
set_option maxHeartbeats 4000000 in
theorem over_10 (a b : Int) (d : Nat) (A B D : Option Addr) (w : World) (hx : Nat32 w A (ab a)) (hy : Nat32 w B (ab b)) (hd : Nat32 w D d) (hbx : ln (ab a) ≤ 1099511627776) (hby : ln (ab b) ≤ 1099511627776) (hbd : ln d ≤ 1099511627776) (hd0 : d ≠ 0) (g : Nat) (hg : g = gg a b d) (hg1 : g ≠ 1) (h1 : d / g ≠ 1) :
    Calls Try.prog 35 #[.agg #[.bool (sn (a)), .slice A (ln (ab (a))) (ln (ab (a)))], .agg #[.bool (sn (b)), .slice B (ln (ab (b))) (ln (ab (b)))], .slice D (ln d) (ln d)] w (RetNum w (fr a b d)) := by
  have g0 : 0 < g := by rw [hg]; exact gg_pos a b (by omega)
  have t : decide (g = 1) = false := by simpa using hg1
  have t1 : decide (d / g = 1) = false := by simpa using h1
  have HG := Lib.hid hg
  have hgl : ln g ≤ 1099511627776 := Nat.le_trans (ln_mono (Nat.le_of_dvd (by omega) (by rw [hg]; exact (gg_dvd a b d).2.2))) hbd
  have H1 := Lib.hid h1
  have HG1 := Lib.hid hg1
  have T1 := Lib.hid t1
  clear hg hg1 h1 t1
  go_enter Try.func35, Try.ntmps35
  go_wp2_with fail
  obtain ⟨W, hW⟩ : ∃ W : World, W = (((w.alloc (.cells #[.bool (sn (a)), .slice A (ln (ab (a))) (ln (ab (a)))] 32)).alloc (.cells #[.bool (sn (b)), .slice B (ln (ab (b))) (ln (ab (b)))] 32)).alloc (.cells #[.bool false, .slice none 0 0, .bool false, .slice none 0 0, .slice none 0 0] 34)) := ⟨_, rfl⟩
  have s0_0 : W.cell? ⟨w.heap.size, 0, none⟩ = some (.bool (sn (a))) := by subst hW; go_simp
  have g0_0 : W.frozen? ⟨w.heap.size, 0, none⟩ = false := by subst hW; go_simp
  have s0_1 : W.cell? ⟨w.heap.size, 1, none⟩ = some (.slice A (ln (ab (a))) (ln (ab (a)))) := by subst hW; go_simp
  have g0_1 : W.frozen? ⟨w.heap.size, 1, none⟩ = false := by subst hW; go_simp
  have s1_0 : W.cell? ⟨w.heap.size + 1, 0, none⟩ = some (.bool (sn (b))) := by subst hW; go_simp
  have g1_0 : W.frozen? ⟨w.heap.size + 1, 0, none⟩ = false := by subst hW; go_simp
  have s1_1 : W.cell? ⟨w.heap.size + 1, 1, none⟩ = some (.slice B (ln (ab (b))) (ln (ab (b)))) := by subst hW; go_simp
  have g1_1 : W.frozen? ⟨w.heap.size + 1, 1, none⟩ = false := by subst hW; go_simp
  have r0 : W.cell? ⟨w.heap.size + 1 + 1, 0, none⟩ = some (.bool false) := by subst hW; go_simp
  have f0 : W.frozen? ⟨w.heap.size + 1 + 1, 0, none⟩ = false := by subst hW; go_simp
  have r1 : W.cell? ⟨w.heap.size + 1 + 1, 1, none⟩ = some (.slice none 0 0) := by subst hW; go_simp
  have f1 : W.frozen? ⟨w.heap.size + 1 + 1, 1, none⟩ = false := by subst hW; go_simp
  have r2 : W.cell? ⟨w.heap.size + 1 + 1, 2, none⟩ = some (.bool false) := by subst hW; go_simp
  have f2 : W.frozen? ⟨w.heap.size + 1 + 1, 2, none⟩ = false := by subst hW; go_simp
  have r3 : W.cell? ⟨w.heap.size + 1 + 1, 3, none⟩ = some (.slice none 0 0) := by subst hW; go_simp
  have f3 : W.frozen? ⟨w.heap.size + 1 + 1, 3, none⟩ = false := by subst hW; go_simp
  have r4 : W.cell? ⟨w.heap.size + 1 + 1, 4, none⟩ = some (.slice none 0 0) := by subst hW; go_simp
  have f4 : W.frozen? ⟨w.heap.size + 1 + 1, 4, none⟩ = false := by subst hW; go_simp
  have HW : Below w.heap.size w W := by subst hW; exact ((((Below.refl w.heap.size w).alloc (Nat.le_refl _) _).alloc (by simp) _).alloc (by simp; omega) _)
  have l0 : w.heap.size < W.heap.size := by subst hW; simp <;> omega
  have l1 : w.heap.size + 1 < W.heap.size := by subst hW; simp <;> omega
  have l2 : w.heap.size + 1 + 1 < W.heap.size := by subst hW; simp
  have n0 : w.heap.size ≠ w.heap.size + 1 + 1 := by omega
  have n1 : w.heap.size + 1 ≠ w.heap.size + 1 + 1 := by omega
  replace hx := hx.to HW
  replace hy := hy.to HW
  replace hd := hd.to HW
  rw [← hW]
  clear hW
  replace HW := Lib.hid HW
  refine (gcd_any (ab a) (ab b) A B _ (by exact hx) (by exact hy) hbx hby).mono ?_
  rintro e w1 ⟨A1, rfl, h1, hb1⟩
  replace s0_0 := keepc hb1 s0_0 l0
  replace g0_0 := keepf hb1 g0_0 l0
  replace s0_1 := keepc hb1 s0_1 l0
  replace g0_1 := keepf hb1 g0_1 l0
  replace s1_0 := keepc hb1 s1_0 l1
  replace g1_0 := keepf hb1 g1_0 l1
  replace s1_1 := keepc hb1 s1_1 l1
  replace g1_1 := keepf hb1 g1_1 l1
  replace r0 := keepc hb1 r0 l2
  replace f0 := keepf hb1 f0 l2
  replace r1 := keepc hb1 r1 l2
  replace f1 := keepf hb1 f1 l2
  replace r2 := keepc hb1 r2 l2
  replace f2 := keepf hb1 f2 l2
  replace r3 := keepc hb1 r3 l2
  replace f3 := keepf hb1 f3 l2
  replace r4 := keepc hb1 r4 l2
  replace f4 := keepf hb1 f4 l2
  replace l0 := Nat.lt_of_lt_of_le l0 hb1.size
  replace l1 := Nat.lt_of_lt_of_le l1 hb1.size
  replace l2 := Nat.lt_of_lt_of_le l2 hb1.size
  replace hx := hx.to hb1
  replace hy := hy.to hb1
  replace hd := hd.to hb1
  replace HW := Lib.hid (hstep HW hb1)
  clear hb1
  go_wp2_with fail
  have hl1 : ln (Nat.gcd (ab a) (ab b)) ≤ 1099511627776 := gcd_ln hbx hby
  refine (gcd_any (Nat.gcd (ab a) (ab b)) d A1 D _ (by exact h1) (by exact hd) hl1 hbd).mono ?_
  rintro e w2 ⟨A2, rfl, h2, hb2⟩
  replace s0_0 := keepc hb2 s0_0 l0
  replace g0_0 := keepf hb2 g0_0 l0
  replace s0_1 := keepc hb2 s0_1 l0
  replace g0_1 := keepf hb2 g0_1 l0
  replace s1_0 := keepc hb2 s1_0 l1
  replace g1_0 := keepf hb2 g1_0 l1
  replace s1_1 := keepc hb2 s1_1 l1
  replace g1_1 := keepf hb2 g1_1 l1
  replace r0 := keepc hb2 r0 l2
  replace f0 := keepf hb2 f0 l2
  replace r1 := keepc hb2 r1 l2
  replace f1 := keepf hb2 f1 l2
  replace r2 := keepc hb2 r2 l2
  replace f2 := keepf hb2 f2 l2
  replace r3 := keepc hb2 r3 l2
  replace f3 := keepf hb2 f3 l2
  replace r4 := keepc hb2 r4 l2
  replace f4 := keepf hb2 f4 l2
  replace l0 := Nat.lt_of_lt_of_le l0 hb2.size
  replace l1 := Nat.lt_of_lt_of_le l1 hb2.size
  replace l2 := Nat.lt_of_lt_of_le l2 hb2.size
  replace hx := hx.to hb2
  replace hy := hy.to hb2
  replace hd := hd.to hb2
  replace h1 := h1.to hb2
  replace HW := Lib.hid (hstep HW hb2)
  clear hb2
  rw [show Nat.gcd (Nat.gcd (ab a) (ab b)) d = g from HG.out.symm] at h2 ⊢
  go_wp2_with fail
  refine (one_any g A2 _ (by exact h2)).mono ?_
  rintro e w3 ⟨rfl, rfl⟩
  go_wp2_with fail
  refine (div_any (ab a) g A A2 _ (by exact hx) (by exact h2) hbx hgl (by omega)).mono ?_
  rintro e w4 ⟨A4, R4, rfl, h4, q4, hb4⟩
  replace s0_0 := keepc hb4 s0_0 l0
  replace g0_0 := keepf hb4 g0_0 l0
  replace s0_1 := keepc hb4 s0_1 l0
  replace g0_1 := keepf hb4 g0_1 l0
  replace s1_0 := keepc hb4 s1_0 l1
  replace g1_0 := keepf hb4 g1_0 l1
  replace s1_1 := keepc hb4 s1_1 l1
  replace g1_1 := keepf hb4 g1_1 l1
  replace r0 := keepc hb4 r0 l2
  replace f0 := keepf hb4 f0 l2
  replace r1 := keepc hb4 r1 l2
  replace f1 := keepf hb4 f1 l2
  replace r2 := keepc hb4 r2 l2
  replace f2 := keepf hb4 f2 l2
  replace r3 := keepc hb4 r3 l2
  replace f3 := keepf hb4 f3 l2
  replace r4 := keepc hb4 r4 l2
  replace f4 := keepf hb4 f4 l2
  replace l0 := Nat.lt_of_lt_of_le l0 hb4.size
  replace l1 := Nat.lt_of_lt_of_le l1 hb4.size
  replace l2 := Nat.lt_of_lt_of_le l2 hb4.size
  replace hx := hx.to hb4
  replace hy := hy.to hb4
  replace hd := hd.to hb4
  replace h1 := h1.to hb4
  replace h2 := h2.to hb4
  replace HW := Lib.hid (hstep HW hb4)
  clear hb4
  go_wp2_with fail
  obtain ⟨x1, hx1⟩ : ∃ X : World, X = w4.setCell ⟨w.heap.size, 1, none⟩ (.slice A4 (ln (ab a / g)) (ln (ab a / g))) := ⟨_, rfl⟩
  replace hx := hx.setBox (i := 1) (u := .slice A4 (ln (ab a / g)) (ln (ab a / g))) s0_0 (by intro k m e; cases e)
  rw [← hx1] at hx
  replace hy := hy.setBox (i := 1) (u := .slice A4 (ln (ab a / g)) (ln (ab a / g))) s0_0 (by intro k m e; cases e)
  rw [← hx1] at hy
  replace hd := hd.setBox (i := 1) (u := .slice A4 (ln (ab a / g)) (ln (ab a / g))) s0_0 (by intro k m e; cases e)
  rw [← hx1] at hd
  replace h1 := h1.setBox (i := 1) (u := .slice A4 (ln (ab a / g)) (ln (ab a / g))) s0_0 (by intro k m e; cases e)
  rw [← hx1] at h1
  replace h2 := h2.setBox (i := 1) (u := .slice A4 (ln (ab a / g)) (ln (ab a / g))) s0_0 (by intro k m e; cases e)
  rw [← hx1] at h2
  replace h4 := h4.setBox (i := 1) (u := .slice A4 (ln (ab a / g)) (ln (ab a / g))) s0_0 (by intro k m e; cases e)
  rw [← hx1] at h4
  replace HW := Lib.hid (show Below w.heap.size w x1 by rw [hx1]; exact HW.out.setCell (by show w.heap.size ≤ w.heap.size; omega) _)
  replace s0_0 := keepo (R := w.heap.size) (j := 1) (u := .slice A4 (ln (ab a / g)) (ln (ab a / g))) s0_0 (by omega)
  rw [← hx1] at s0_0
  replace g0_0 := keepof (R := w.heap.size) (j := 1) (u := .slice A4 (ln (ab a / g)) (ln (ab a / g))) g0_0
  rw [← hx1] at g0_0
  replace s0_1 := cell_self (u := .slice A4 (ln (ab a / g)) (ln (ab a / g))) s0_1
  rw [← hx1] at s0_1
  replace g0_1 := keepof (R := w.heap.size) (j := 1) (u := .slice A4 (ln (ab a / g)) (ln (ab a / g))) g0_1
  rw [← hx1] at g0_1
  replace s1_0 := keepo (R := w.heap.size) (j := 1) (u := .slice A4 (ln (ab a / g)) (ln (ab a / g))) s1_0 (by omega)
  rw [← hx1] at s1_0
  replace g1_0 := keepof (R := w.heap.size) (j := 1) (u := .slice A4 (ln (ab a / g)) (ln (ab a / g))) g1_0
  rw [← hx1] at g1_0
  replace s1_1 := keepo (R := w.heap.size) (j := 1) (u := .slice A4 (ln (ab a / g)) (ln (ab a / g))) s1_1 (by omega)
  rw [← hx1] at s1_1
  replace g1_1 := keepof (R := w.heap.size) (j := 1) (u := .slice A4 (ln (ab a / g)) (ln (ab a / g))) g1_1
  rw [← hx1] at g1_1
  replace r0 := keepo (R := w.heap.size) (j := 1) (u := .slice A4 (ln (ab a / g)) (ln (ab a / g))) r0 (by omega)
  rw [← hx1] at r0
  replace f0 := keepof (R := w.heap.size) (j := 1) (u := .slice A4 (ln (ab a / g)) (ln (ab a / g))) f0
  rw [← hx1] at f0
  replace r1 := keepo (R := w.heap.size) (j := 1) (u := .slice A4 (ln (ab a / g)) (ln (ab a / g))) r1 (by omega)
  rw [← hx1] at r1
  replace f1 := keepof (R := w.heap.size) (j := 1) (u := .slice A4 (ln (ab a / g)) (ln (ab a / g))) f1
  rw [← hx1] at f1
  replace r2 := keepo (R := w.heap.size) (j := 1) (u := .slice A4 (ln (ab a / g)) (ln (ab a / g))) r2 (by omega)
  rw [← hx1] at r2
  replace f2 := keepof (R := w.heap.size) (j := 1) (u := .slice A4 (ln (ab a / g)) (ln (ab a / g))) f2
  rw [← hx1] at f2
  replace r3 := keepo (R := w.heap.size) (j := 1) (u := .slice A4 (ln (ab a / g)) (ln (ab a / g))) r3 (by omega)
  rw [← hx1] at r3
  replace f3 := keepof (R := w.heap.size) (j := 1) (u := .slice A4 (ln (ab a / g)) (ln (ab a / g))) f3
  rw [← hx1] at f3
  replace r4 := keepo (R := w.heap.size) (j := 1) (u := .slice A4 (ln (ab a / g)) (ln (ab a / g))) r4 (by omega)
  rw [← hx1] at r4
  replace f4 := keepof (R := w.heap.size) (j := 1) (u := .slice A4 (ln (ab a / g)) (ln (ab a / g))) f4
  rw [← hx1] at f4
  replace l0 : w.heap.size < x1.heap.size := by rw [hx1]; simpa [World.setCell] using l0
  replace l1 : w.heap.size + 1 < x1.heap.size := by rw [hx1]; simpa [World.setCell] using l1
  replace l2 : w.heap.size + 1 + 1 < x1.heap.size := by rw [hx1]; simpa [World.setCell] using l2
  rw [← hx1]
  clear hx1
  refine (div_any (ab b) g B A2 _ (by exact hy) (by exact h2) hby hgl (by omega)).mono ?_
  rintro e w5 ⟨A5, R5, rfl, h5, q5, hb5⟩
  replace s0_0 := keepc hb5 s0_0 l0
  replace g0_0 := keepf hb5 g0_0 l0
  replace s0_1 := keepc hb5 s0_1 l0
  replace g0_1 := keepf hb5 g0_1 l0
  replace s1_0 := keepc hb5 s1_0 l1
  replace g1_0 := keepf hb5 g1_0 l1
  replace s1_1 := keepc hb5 s1_1 l1
  replace g1_1 := keepf hb5 g1_1 l1
  replace r0 := keepc hb5 r0 l2
  replace f0 := keepf hb5 f0 l2
  replace r1 := keepc hb5 r1 l2
  replace f1 := keepf hb5 f1 l2
  replace r2 := keepc hb5 r2 l2
  replace f2 := keepf hb5 f2 l2
  replace r3 := keepc hb5 r3 l2
  replace f3 := keepf hb5 f3 l2
  replace r4 := keepc hb5 r4 l2
  replace f4 := keepf hb5 f4 l2
  replace l0 := Nat.lt_of_lt_of_le l0 hb5.size
  replace l1 := Nat.lt_of_lt_of_le l1 hb5.size
  replace l2 := Nat.lt_of_lt_of_le l2 hb5.size
  replace hx := hx.to hb5
  replace hy := hy.to hb5
  replace hd := hd.to hb5
  replace h1 := h1.to hb5
  replace h2 := h2.to hb5
  replace h4 := h4.to hb5
  replace HW := Lib.hid (hstep HW hb5)
  clear hb5
  go_wp2_with fail
  obtain ⟨x2, hx2⟩ : ∃ X : World, X = w5.setCell ⟨w.heap.size + 1, 1, none⟩ (.slice A5 (ln (ab b / g)) (ln (ab b / g))) := ⟨_, rfl⟩
  replace hx := hx.setBox (i := 1) (u := .slice A5 (ln (ab b / g)) (ln (ab b / g))) s1_0 (by intro k m e; cases e)
  rw [← hx2] at hx
  replace hy := hy.setBox (i := 1) (u := .slice A5 (ln (ab b / g)) (ln (ab b / g))) s1_0 (by intro k m e; cases e)
  rw [← hx2] at hy
  replace hd := hd.setBox (i := 1) (u := .slice A5 (ln (ab b / g)) (ln (ab b / g))) s1_0 (by intro k m e; cases e)
  rw [← hx2] at hd
  replace h1 := h1.setBox (i := 1) (u := .slice A5 (ln (ab b / g)) (ln (ab b / g))) s1_0 (by intro k m e; cases e)
  rw [← hx2] at h1
  replace h2 := h2.setBox (i := 1) (u := .slice A5 (ln (ab b / g)) (ln (ab b / g))) s1_0 (by intro k m e; cases e)
  rw [← hx2] at h2
  replace h4 := h4.setBox (i := 1) (u := .slice A5 (ln (ab b / g)) (ln (ab b / g))) s1_0 (by intro k m e; cases e)
  rw [← hx2] at h4
  replace h5 := h5.setBox (i := 1) (u := .slice A5 (ln (ab b / g)) (ln (ab b / g))) s1_0 (by intro k m e; cases e)
  rw [← hx2] at h5
  replace HW := Lib.hid (show Below w.heap.size w x2 by rw [hx2]; exact HW.out.setCell (by show w.heap.size ≤ w.heap.size + 1; omega) _)
  replace s0_0 := keepo (R := w.heap.size + 1) (j := 1) (u := .slice A5 (ln (ab b / g)) (ln (ab b / g))) s0_0 (by omega)
  rw [← hx2] at s0_0
  replace g0_0 := keepof (R := w.heap.size + 1) (j := 1) (u := .slice A5 (ln (ab b / g)) (ln (ab b / g))) g0_0
  rw [← hx2] at g0_0
  replace s0_1 := keepo (R := w.heap.size + 1) (j := 1) (u := .slice A5 (ln (ab b / g)) (ln (ab b / g))) s0_1 (by omega)
  rw [← hx2] at s0_1
  replace g0_1 := keepof (R := w.heap.size + 1) (j := 1) (u := .slice A5 (ln (ab b / g)) (ln (ab b / g))) g0_1
  rw [← hx2] at g0_1
  replace s1_0 := keepo (R := w.heap.size + 1) (j := 1) (u := .slice A5 (ln (ab b / g)) (ln (ab b / g))) s1_0 (by omega)
  rw [← hx2] at s1_0
  replace g1_0 := keepof (R := w.heap.size + 1) (j := 1) (u := .slice A5 (ln (ab b / g)) (ln (ab b / g))) g1_0
  rw [← hx2] at g1_0
  replace s1_1 := cell_self (u := .slice A5 (ln (ab b / g)) (ln (ab b / g))) s1_1
  rw [← hx2] at s1_1
  replace g1_1 := keepof (R := w.heap.size + 1) (j := 1) (u := .slice A5 (ln (ab b / g)) (ln (ab b / g))) g1_1
  rw [← hx2] at g1_1
  replace r0 := keepo (R := w.heap.size + 1) (j := 1) (u := .slice A5 (ln (ab b / g)) (ln (ab b / g))) r0 (by omega)
  rw [← hx2] at r0
  replace f0 := keepof (R := w.heap.size + 1) (j := 1) (u := .slice A5 (ln (ab b / g)) (ln (ab b / g))) f0
  rw [← hx2] at f0
  replace r1 := keepo (R := w.heap.size + 1) (j := 1) (u := .slice A5 (ln (ab b / g)) (ln (ab b / g))) r1 (by omega)
  rw [← hx2] at r1
  replace f1 := keepof (R := w.heap.size + 1) (j := 1) (u := .slice A5 (ln (ab b / g)) (ln (ab b / g))) f1
  rw [← hx2] at f1
  replace r2 := keepo (R := w.heap.size + 1) (j := 1) (u := .slice A5 (ln (ab b / g)) (ln (ab b / g))) r2 (by omega)
  rw [← hx2] at r2
  replace f2 := keepof (R := w.heap.size + 1) (j := 1) (u := .slice A5 (ln (ab b / g)) (ln (ab b / g))) f2
  rw [← hx2] at f2
  replace r3 := keepo (R := w.heap.size + 1) (j := 1) (u := .slice A5 (ln (ab b / g)) (ln (ab b / g))) r3 (by omega)
  rw [← hx2] at r3
  replace f3 := keepof (R := w.heap.size + 1) (j := 1) (u := .slice A5 (ln (ab b / g)) (ln (ab b / g))) f3
  rw [← hx2] at f3
  replace r4 := keepo (R := w.heap.size + 1) (j := 1) (u := .slice A5 (ln (ab b / g)) (ln (ab b / g))) r4 (by omega)
  rw [← hx2] at r4
  replace f4 := keepof (R := w.heap.size + 1) (j := 1) (u := .slice A5 (ln (ab b / g)) (ln (ab b / g))) f4
  rw [← hx2] at f4
  replace l0 : w.heap.size < x2.heap.size := by rw [hx2]; simpa [World.setCell] using l0
  replace l1 : w.heap.size + 1 < x2.heap.size := by rw [hx2]; simpa [World.setCell] using l1
  replace l2 : w.heap.size + 1 + 1 < x2.heap.size := by rw [hx2]; simpa [World.setCell] using l2
  rw [← hx2]
  clear hx2
  refine (div_any d g D A2 _ (by exact hd) (by exact h2) hbd hgl (by omega)).mono ?_
  rintro e w6 ⟨A6, R6, rfl, h6, q6, hb6⟩
  replace s0_0 := keepc hb6 s0_0 l0
  replace g0_0 := keepf hb6 g0_0 l0
  replace s0_1 := keepc hb6 s0_1 l0
  replace g0_1 := keepf hb6 g0_1 l0
  replace s1_0 := keepc hb6 s1_0 l1
  replace g1_0 := keepf hb6 g1_0 l1
  replace s1_1 := keepc hb6 s1_1 l1
  replace g1_1 := keepf hb6 g1_1 l1
  replace r0 := keepc hb6 r0 l2
  replace f0 := keepf hb6 f0 l2
  replace r1 := keepc hb6 r1 l2
  replace f1 := keepf hb6 f1 l2
  replace r2 := keepc hb6 r2 l2
  replace f2 := keepf hb6 f2 l2
  replace r3 := keepc hb6 r3 l2
  replace f3 := keepf hb6 f3 l2
  replace r4 := keepc hb6 r4 l2
  replace f4 := keepf hb6 f4 l2
  replace l0 := Nat.lt_of_lt_of_le l0 hb6.size
  replace l1 := Nat.lt_of_lt_of_le l1 hb6.size
  replace l2 := Nat.lt_of_lt_of_le l2 hb6.size
  replace hx := hx.to hb6
  replace hy := hy.to hb6
  replace hd := hd.to hb6
  replace h1 := h1.to hb6
  replace h2 := h2.to hb6
  replace h4 := h4.to hb6
  replace h5 := h5.to hb6
  replace HW := Lib.hid (hstep HW hb6)
  clear hb6
  go_wp2_with fail
  have t1 := T1.out
  refine (one_any (d / g) A6 _ (by exact h6)).mono ?_
  rintro e w7 ⟨rfl, rfl⟩
  go_wp2_with fail
  have hone := H1.out
  exact bodyPost_ret (v := .agg #[.bool (sn a), .slice A4 (ln (ab a / g)) (ln (ab a / g)), .bool (sn b), .slice A5 (ln (ab b / g)) (ln (ab b / g)), .slice A6 (ln (d / g)) (ln (d / g))]) (by simp [results, Try.results35, go_sem, r0, r1, r2, r3, r4, f0, f1, f2, f3, f4]) rfl (retNum_over hd0 HG.out HW (by exact h4) (by exact h5) (by rw [if_neg hone]; exact h6) (by omega) r0 _ _ _ rfl rfl (by rw [if_neg hone]))
set_option maxHeartbeats 4000000 in
theorem over_11 (a b : Int) (d : Nat) (A B D : Option Addr) (w : World) (hx : Nat32 w A (ab a)) (hy : Nat32 w B (ab b)) (hd : Nat32 w D d) (hbx : ln (ab a) ≤ 1099511627776) (hby : ln (ab b) ≤ 1099511627776) (hbd : ln d ≤ 1099511627776) (hd0 : d ≠ 0) (g : Nat) (hg : g = gg a b d) (hg1 : g ≠ 1) (h1 : d / g = 1) :
    Calls Try.prog 35 #[.agg #[.bool (sn (a)), .slice A (ln (ab (a))) (ln (ab (a)))], .agg #[.bool (sn (b)), .slice B (ln (ab (b))) (ln (ab (b)))], .slice D (ln d) (ln d)] w (RetNum w (fr a b d)) := by
  have g0 : 0 < g := by rw [hg]; exact gg_pos a b (by omega)
  have t : decide (g = 1) = false := by simpa using hg1
  have t1 : decide (d / g = 1) = true := by simpa using h1
  have HG := Lib.hid hg
  have hgl : ln g ≤ 1099511627776 := Nat.le_trans (ln_mono (Nat.le_of_dvd (by omega) (by rw [hg]; exact (gg_dvd a b d).2.2))) hbd
  have H1 := Lib.hid h1
  have HG1 := Lib.hid hg1
  have T1 := Lib.hid t1
  clear hg hg1 h1 t1
  go_enter Try.func35, Try.ntmps35
  go_wp2_with fail
  obtain ⟨W, hW⟩ : ∃ W : World, W = (((w.alloc (.cells #[.bool (sn (a)), .slice A (ln (ab (a))) (ln (ab (a)))] 32)).alloc (.cells #[.bool (sn (b)), .slice B (ln (ab (b))) (ln (ab (b)))] 32)).alloc (.cells #[.bool false, .slice none 0 0, .bool false, .slice none 0 0, .slice none 0 0] 34)) := ⟨_, rfl⟩
  have s0_0 : W.cell? ⟨w.heap.size, 0, none⟩ = some (.bool (sn (a))) := by subst hW; go_simp
  have g0_0 : W.frozen? ⟨w.heap.size, 0, none⟩ = false := by subst hW; go_simp
  have s0_1 : W.cell? ⟨w.heap.size, 1, none⟩ = some (.slice A (ln (ab (a))) (ln (ab (a)))) := by subst hW; go_simp
  have g0_1 : W.frozen? ⟨w.heap.size, 1, none⟩ = false := by subst hW; go_simp
  have s1_0 : W.cell? ⟨w.heap.size + 1, 0, none⟩ = some (.bool (sn (b))) := by subst hW; go_simp
  have g1_0 : W.frozen? ⟨w.heap.size + 1, 0, none⟩ = false := by subst hW; go_simp
  have s1_1 : W.cell? ⟨w.heap.size + 1, 1, none⟩ = some (.slice B (ln (ab (b))) (ln (ab (b)))) := by subst hW; go_simp
  have g1_1 : W.frozen? ⟨w.heap.size + 1, 1, none⟩ = false := by subst hW; go_simp
  have r0 : W.cell? ⟨w.heap.size + 1 + 1, 0, none⟩ = some (.bool false) := by subst hW; go_simp
  have f0 : W.frozen? ⟨w.heap.size + 1 + 1, 0, none⟩ = false := by subst hW; go_simp
  have r1 : W.cell? ⟨w.heap.size + 1 + 1, 1, none⟩ = some (.slice none 0 0) := by subst hW; go_simp
  have f1 : W.frozen? ⟨w.heap.size + 1 + 1, 1, none⟩ = false := by subst hW; go_simp
  have r2 : W.cell? ⟨w.heap.size + 1 + 1, 2, none⟩ = some (.bool false) := by subst hW; go_simp
  have f2 : W.frozen? ⟨w.heap.size + 1 + 1, 2, none⟩ = false := by subst hW; go_simp
  have r3 : W.cell? ⟨w.heap.size + 1 + 1, 3, none⟩ = some (.slice none 0 0) := by subst hW; go_simp
  have f3 : W.frozen? ⟨w.heap.size + 1 + 1, 3, none⟩ = false := by subst hW; go_simp
  have r4 : W.cell? ⟨w.heap.size + 1 + 1, 4, none⟩ = some (.slice none 0 0) := by subst hW; go_simp
  have f4 : W.frozen? ⟨w.heap.size + 1 + 1, 4, none⟩ = false := by subst hW; go_simp
  have HW : Below w.heap.size w W := by subst hW; exact ((((Below.refl w.heap.size w).alloc (Nat.le_refl _) _).alloc (by simp) _).alloc (by simp; omega) _)
  have l0 : w.heap.size < W.heap.size := by subst hW; simp <;> omega
  have l1 : w.heap.size + 1 < W.heap.size := by subst hW; simp <;> omega
  have l2 : w.heap.size + 1 + 1 < W.heap.size := by subst hW; simp
  have n0 : w.heap.size ≠ w.heap.size + 1 + 1 := by omega
  have n1 : w.heap.size + 1 ≠ w.heap.size + 1 + 1 := by omega
  replace hx := hx.to HW
  replace hy := hy.to HW
  replace hd := hd.to HW
  rw [← hW]
  clear hW
  replace HW := Lib.hid HW
  refine (gcd_any (ab a) (ab b) A B _ (by exact hx) (by exact hy) hbx hby).mono ?_
  rintro e w1 ⟨A1, rfl, h1, hb1⟩
  replace s0_0 := keepc hb1 s0_0 l0
  replace g0_0 := keepf hb1 g0_0 l0
  replace s0_1 := keepc hb1 s0_1 l0
  replace g0_1 := keepf hb1 g0_1 l0
  replace s1_0 := keepc hb1 s1_0 l1
  replace g1_0 := keepf hb1 g1_0 l1
  replace s1_1 := keepc hb1 s1_1 l1
  replace g1_1 := keepf hb1 g1_1 l1
  replace r0 := keepc hb1 r0 l2
  replace f0 := keepf hb1 f0 l2
  replace r1 := keepc hb1 r1 l2
  replace f1 := keepf hb1 f1 l2
  replace r2 := keepc hb1 r2 l2
  replace f2 := keepf hb1 f2 l2
  replace r3 := keepc hb1 r3 l2
  replace f3 := keepf hb1 f3 l2
  replace r4 := keepc hb1 r4 l2
  replace f4 := keepf hb1 f4 l2
  replace l0 := Nat.lt_of_lt_of_le l0 hb1.size
  replace l1 := Nat.lt_of_lt_of_le l1 hb1.size
  replace l2 := Nat.lt_of_lt_of_le l2 hb1.size
  replace hx := hx.to hb1
  replace hy := hy.to hb1
  replace hd := hd.to hb1
  replace HW := Lib.hid (hstep HW hb1)
  clear hb1
  go_wp2_with fail
  have hl1 : ln (Nat.gcd (ab a) (ab b)) ≤ 1099511627776 := gcd_ln hbx hby
  refine (gcd_any (Nat.gcd (ab a) (ab b)) d A1 D _ (by exact h1) (by exact hd) hl1 hbd).mono ?_
  rintro e w2 ⟨A2, rfl, h2, hb2⟩
  replace s0_0 := keepc hb2 s0_0 l0
  replace g0_0 := keepf hb2 g0_0 l0
  replace s0_1 := keepc hb2 s0_1 l0
  replace g0_1 := keepf hb2 g0_1 l0
  replace s1_0 := keepc hb2 s1_0 l1
  replace g1_0 := keepf hb2 g1_0 l1
  replace s1_1 := keepc hb2 s1_1 l1
  replace g1_1 := keepf hb2 g1_1 l1
  replace r0 := keepc hb2 r0 l2
  replace f0 := keepf hb2 f0 l2
  replace r1 := keepc hb2 r1 l2
  replace f1 := keepf hb2 f1 l2
  replace r2 := keepc hb2 r2 l2
  replace f2 := keepf hb2 f2 l2
  replace r3 := keepc hb2 r3 l2
  replace f3 := keepf hb2 f3 l2
  replace r4 := keepc hb2 r4 l2
  replace f4 := keepf hb2 f4 l2
  replace l0 := Nat.lt_of_lt_of_le l0 hb2.size
  replace l1 := Nat.lt_of_lt_of_le l1 hb2.size
  replace l2 := Nat.lt_of_lt_of_le l2 hb2.size
  replace hx := hx.to hb2
  replace hy := hy.to hb2
  replace hd := hd.to hb2
  replace h1 := h1.to hb2
  replace HW := Lib.hid (hstep HW hb2)
  clear hb2
  rw [show Nat.gcd (Nat.gcd (ab a) (ab b)) d = g from HG.out.symm] at h2 ⊢
  go_wp2_with fail
  refine (one_any g A2 _ (by exact h2)).mono ?_
  rintro e w3 ⟨rfl, rfl⟩
  go_wp2_with fail
  refine (div_any (ab a) g A A2 _ (by exact hx) (by exact h2) hbx hgl (by omega)).mono ?_
  rintro e w4 ⟨A4, R4, rfl, h4, q4, hb4⟩
  replace s0_0 := keepc hb4 s0_0 l0
  replace g0_0 := keepf hb4 g0_0 l0
  replace s0_1 := keepc hb4 s0_1 l0
  replace g0_1 := keepf hb4 g0_1 l0
  replace s1_0 := keepc hb4 s1_0 l1
  replace g1_0 := keepf hb4 g1_0 l1
  replace s1_1 := keepc hb4 s1_1 l1
  replace g1_1 := keepf hb4 g1_1 l1
  replace r0 := keepc hb4 r0 l2
  replace f0 := keepf hb4 f0 l2
  replace r1 := keepc hb4 r1 l2
  replace f1 := keepf hb4 f1 l2
  replace r2 := keepc hb4 r2 l2
  replace f2 := keepf hb4 f2 l2
  replace r3 := keepc hb4 r3 l2
  replace f3 := keepf hb4 f3 l2
  replace r4 := keepc hb4 r4 l2
  replace f4 := keepf hb4 f4 l2
  replace l0 := Nat.lt_of_lt_of_le l0 hb4.size
  replace l1 := Nat.lt_of_lt_of_le l1 hb4.size
  replace l2 := Nat.lt_of_lt_of_le l2 hb4.size
  replace hx := hx.to hb4
  replace hy := hy.to hb4
  replace hd := hd.to hb4
  replace h1 := h1.to hb4
  replace h2 := h2.to hb4
  replace HW := Lib.hid (hstep HW hb4)
  clear hb4
  go_wp2_with fail
  obtain ⟨x1, hx1⟩ : ∃ X : World, X = w4.setCell ⟨w.heap.size, 1, none⟩ (.slice A4 (ln (ab a / g)) (ln (ab a / g))) := ⟨_, rfl⟩
  replace hx := hx.setBox (i := 1) (u := .slice A4 (ln (ab a / g)) (ln (ab a / g))) s0_0 (by intro k m e; cases e)
  rw [← hx1] at hx
  replace hy := hy.setBox (i := 1) (u := .slice A4 (ln (ab a / g)) (ln (ab a / g))) s0_0 (by intro k m e; cases e)
  rw [← hx1] at hy
  replace hd := hd.setBox (i := 1) (u := .slice A4 (ln (ab a / g)) (ln (ab a / g))) s0_0 (by intro k m e; cases e)
  rw [← hx1] at hd
  replace h1 := h1.setBox (i := 1) (u := .slice A4 (ln (ab a / g)) (ln (ab a / g))) s0_0 (by intro k m e; cases e)
  rw [← hx1] at h1
  replace h2 := h2.setBox (i := 1) (u := .slice A4 (ln (ab a / g)) (ln (ab a / g))) s0_0 (by intro k m e; cases e)
  rw [← hx1] at h2
  replace h4 := h4.setBox (i := 1) (u := .slice A4 (ln (ab a / g)) (ln (ab a / g))) s0_0 (by intro k m e; cases e)
  rw [← hx1] at h4
  replace HW := Lib.hid (show Below w.heap.size w x1 by rw [hx1]; exact HW.out.setCell (by show w.heap.size ≤ w.heap.size; omega) _)
  replace s0_0 := keepo (R := w.heap.size) (j := 1) (u := .slice A4 (ln (ab a / g)) (ln (ab a / g))) s0_0 (by omega)
  rw [← hx1] at s0_0
  replace g0_0 := keepof (R := w.heap.size) (j := 1) (u := .slice A4 (ln (ab a / g)) (ln (ab a / g))) g0_0
  rw [← hx1] at g0_0
  replace s0_1 := cell_self (u := .slice A4 (ln (ab a / g)) (ln (ab a / g))) s0_1
  rw [← hx1] at s0_1
  replace g0_1 := keepof (R := w.heap.size) (j := 1) (u := .slice A4 (ln (ab a / g)) (ln (ab a / g))) g0_1
  rw [← hx1] at g0_1
  replace s1_0 := keepo (R := w.heap.size) (j := 1) (u := .slice A4 (ln (ab a / g)) (ln (ab a / g))) s1_0 (by omega)
  rw [← hx1] at s1_0
  replace g1_0 := keepof (R := w.heap.size) (j := 1) (u := .slice A4 (ln (ab a / g)) (ln (ab a / g))) g1_0
  rw [← hx1] at g1_0
  replace s1_1 := keepo (R := w.heap.size) (j := 1) (u := .slice A4 (ln (ab a / g)) (ln (ab a / g))) s1_1 (by omega)
  rw [← hx1] at s1_1
  replace g1_1 := keepof (R := w.heap.size) (j := 1) (u := .slice A4 (ln (ab a / g)) (ln (ab a / g))) g1_1
  rw [← hx1] at g1_1
  replace r0 := keepo (R := w.heap.size) (j := 1) (u := .slice A4 (ln (ab a / g)) (ln (ab a / g))) r0 (by omega)
  rw [← hx1] at r0
  replace f0 := keepof (R := w.heap.size) (j := 1) (u := .slice A4 (ln (ab a / g)) (ln (ab a / g))) f0
  rw [← hx1] at f0
  replace r1 := keepo (R := w.heap.size) (j := 1) (u := .slice A4 (ln (ab a / g)) (ln (ab a / g))) r1 (by omega)
  rw [← hx1] at r1
  replace f1 := keepof (R := w.heap.size) (j := 1) (u := .slice A4 (ln (ab a / g)) (ln (ab a / g))) f1
  rw [← hx1] at f1
  replace r2 := keepo (R := w.heap.size) (j := 1) (u := .slice A4 (ln (ab a / g)) (ln (ab a / g))) r2 (by omega)
  rw [← hx1] at r2
  replace f2 := keepof (R := w.heap.size) (j := 1) (u := .slice A4 (ln (ab a / g)) (ln (ab a / g))) f2
  rw [← hx1] at f2
  replace r3 := keepo (R := w.heap.size) (j := 1) (u := .slice A4 (ln (ab a / g)) (ln (ab a / g))) r3 (by omega)
  rw [← hx1] at r3
  replace f3 := keepof (R := w.heap.size) (j := 1) (u := .slice A4 (ln (ab a / g)) (ln (ab a / g))) f3
  rw [← hx1] at f3
  replace r4 := keepo (R := w.heap.size) (j := 1) (u := .slice A4 (ln (ab a / g)) (ln (ab a / g))) r4 (by omega)
  rw [← hx1] at r4
  replace f4 := keepof (R := w.heap.size) (j := 1) (u := .slice A4 (ln (ab a / g)) (ln (ab a / g))) f4
  rw [← hx1] at f4
  replace l0 : w.heap.size < x1.heap.size := by rw [hx1]; simpa [World.setCell] using l0
  replace l1 : w.heap.size + 1 < x1.heap.size := by rw [hx1]; simpa [World.setCell] using l1
  replace l2 : w.heap.size + 1 + 1 < x1.heap.size := by rw [hx1]; simpa [World.setCell] using l2
  rw [← hx1]
  clear hx1
  refine (div_any (ab b) g B A2 _ (by exact hy) (by exact h2) hby hgl (by omega)).mono ?_
  rintro e w5 ⟨A5, R5, rfl, h5, q5, hb5⟩
  replace s0_0 := keepc hb5 s0_0 l0
  replace g0_0 := keepf hb5 g0_0 l0
  replace s0_1 := keepc hb5 s0_1 l0
  replace g0_1 := keepf hb5 g0_1 l0
  replace s1_0 := keepc hb5 s1_0 l1
  replace g1_0 := keepf hb5 g1_0 l1
  replace s1_1 := keepc hb5 s1_1 l1
  replace g1_1 := keepf hb5 g1_1 l1
  replace r0 := keepc hb5 r0 l2
  replace f0 := keepf hb5 f0 l2
  replace r1 := keepc hb5 r1 l2
  replace f1 := keepf hb5 f1 l2
  replace r2 := keepc hb5 r2 l2
  replace f2 := keepf hb5 f2 l2
  replace r3 := keepc hb5 r3 l2
  replace f3 := keepf hb5 f3 l2
  replace r4 := keepc hb5 r4 l2
  replace f4 := keepf hb5 f4 l2
  replace l0 := Nat.lt_of_lt_of_le l0 hb5.size
  replace l1 := Nat.lt_of_lt_of_le l1 hb5.size
  replace l2 := Nat.lt_of_lt_of_le l2 hb5.size
  replace hx := hx.to hb5
  replace hy := hy.to hb5
  replace hd := hd.to hb5
  replace h1 := h1.to hb5
  replace h2 := h2.to hb5
  replace h4 := h4.to hb5
  replace HW := Lib.hid (hstep HW hb5)
  clear hb5
  go_wp2_with fail
  obtain ⟨x2, hx2⟩ : ∃ X : World, X = w5.setCell ⟨w.heap.size + 1, 1, none⟩ (.slice A5 (ln (ab b / g)) (ln (ab b / g))) := ⟨_, rfl⟩
  replace hx := hx.setBox (i := 1) (u := .slice A5 (ln (ab b / g)) (ln (ab b / g))) s1_0 (by intro k m e; cases e)
  rw [← hx2] at hx
  replace hy := hy.setBox (i := 1) (u := .slice A5 (ln (ab b / g)) (ln (ab b / g))) s1_0 (by intro k m e; cases e)
  rw [← hx2] at hy
  replace hd := hd.setBox (i := 1) (u := .slice A5 (ln (ab b / g)) (ln (ab b / g))) s1_0 (by intro k m e; cases e)
  rw [← hx2] at hd
  replace h1 := h1.setBox (i := 1) (u := .slice A5 (ln (ab b / g)) (ln (ab b / g))) s1_0 (by intro k m e; cases e)
  rw [← hx2] at h1
  replace h2 := h2.setBox (i := 1) (u := .slice A5 (ln (ab b / g)) (ln (ab b / g))) s1_0 (by intro k m e; cases e)
  rw [← hx2] at h2
  replace h4 := h4.setBox (i := 1) (u := .slice A5 (ln (ab b / g)) (ln (ab b / g))) s1_0 (by intro k m e; cases e)
  rw [← hx2] at h4
  replace h5 := h5.setBox (i := 1) (u := .slice A5 (ln (ab b / g)) (ln (ab b / g))) s1_0 (by intro k m e; cases e)
  rw [← hx2] at h5
  replace HW := Lib.hid (show Below w.heap.size w x2 by rw [hx2]; exact HW.out.setCell (by show w.heap.size ≤ w.heap.size + 1; omega) _)
  replace s0_0 := keepo (R := w.heap.size + 1) (j := 1) (u := .slice A5 (ln (ab b / g)) (ln (ab b / g))) s0_0 (by omega)
  rw [← hx2] at s0_0
  replace g0_0 := keepof (R := w.heap.size + 1) (j := 1) (u := .slice A5 (ln (ab b / g)) (ln (ab b / g))) g0_0
  rw [← hx2] at g0_0
  replace s0_1 := keepo (R := w.heap.size + 1) (j := 1) (u := .slice A5 (ln (ab b / g)) (ln (ab b / g))) s0_1 (by omega)
  rw [← hx2] at s0_1
  replace g0_1 := keepof (R := w.heap.size + 1) (j := 1) (u := .slice A5 (ln (ab b / g)) (ln (ab b / g))) g0_1
  rw [← hx2] at g0_1
  replace s1_0 := keepo (R := w.heap.size + 1) (j := 1) (u := .slice A5 (ln (ab b / g)) (ln (ab b / g))) s1_0 (by omega)
  rw [← hx2] at s1_0
  replace g1_0 := keepof (R := w.heap.size + 1) (j := 1) (u := .slice A5 (ln (ab b / g)) (ln (ab b / g))) g1_0
  rw [← hx2] at g1_0
  replace s1_1 := cell_self (u := .slice A5 (ln (ab b / g)) (ln (ab b / g))) s1_1
  rw [← hx2] at s1_1
  replace g1_1 := keepof (R := w.heap.size + 1) (j := 1) (u := .slice A5 (ln (ab b / g)) (ln (ab b / g))) g1_1
  rw [← hx2] at g1_1
  replace r0 := keepo (R := w.heap.size + 1) (j := 1) (u := .slice A5 (ln (ab b / g)) (ln (ab b / g))) r0 (by omega)
  rw [← hx2] at r0
  replace f0 := keepof (R := w.heap.size + 1) (j := 1) (u := .slice A5 (ln (ab b / g)) (ln (ab b / g))) f0
  rw [← hx2] at f0
  replace r1 := keepo (R := w.heap.size + 1) (j := 1) (u := .slice A5 (ln (ab b / g)) (ln (ab b / g))) r1 (by omega)
  rw [← hx2] at r1
  replace f1 := keepof (R := w.heap.size + 1) (j := 1) (u := .slice A5 (ln (ab b / g)) (ln (ab b / g))) f1
  rw [← hx2] at f1
  replace r2 := keepo (R := w.heap.size + 1) (j := 1) (u := .slice A5 (ln (ab b / g)) (ln (ab b / g))) r2 (by omega)
  rw [← hx2] at r2
  replace f2 := keepof (R := w.heap.size + 1) (j := 1) (u := .slice A5 (ln (ab b / g)) (ln (ab b / g))) f2
  rw [← hx2] at f2
  replace r3 := keepo (R := w.heap.size + 1) (j := 1) (u := .slice A5 (ln (ab b / g)) (ln (ab b / g))) r3 (by omega)
  rw [← hx2] at r3
  replace f3 := keepof (R := w.heap.size + 1) (j := 1) (u := .slice A5 (ln (ab b / g)) (ln (ab b / g))) f3
  rw [← hx2] at f3
  replace r4 := keepo (R := w.heap.size + 1) (j := 1) (u := .slice A5 (ln (ab b / g)) (ln (ab b / g))) r4 (by omega)
  rw [← hx2] at r4
  replace f4 := keepof (R := w.heap.size + 1) (j := 1) (u := .slice A5 (ln (ab b / g)) (ln (ab b / g))) f4
  rw [← hx2] at f4
  replace l0 : w.heap.size < x2.heap.size := by rw [hx2]; simpa [World.setCell] using l0
  replace l1 : w.heap.size + 1 < x2.heap.size := by rw [hx2]; simpa [World.setCell] using l1
  replace l2 : w.heap.size + 1 + 1 < x2.heap.size := by rw [hx2]; simpa [World.setCell] using l2
  rw [← hx2]
  clear hx2
  refine (div_any d g D A2 _ (by exact hd) (by exact h2) hbd hgl (by omega)).mono ?_
  rintro e w6 ⟨A6, R6, rfl, h6, q6, hb6⟩
  replace s0_0 := keepc hb6 s0_0 l0
  replace g0_0 := keepf hb6 g0_0 l0
  replace s0_1 := keepc hb6 s0_1 l0
  replace g0_1 := keepf hb6 g0_1 l0
  replace s1_0 := keepc hb6 s1_0 l1
  replace g1_0 := keepf hb6 g1_0 l1
  replace s1_1 := keepc hb6 s1_1 l1
  replace g1_1 := keepf hb6 g1_1 l1
  replace r0 := keepc hb6 r0 l2
  replace f0 := keepf hb6 f0 l2
  replace r1 := keepc hb6 r1 l2
  replace f1 := keepf hb6 f1 l2
  replace r2 := keepc hb6 r2 l2
  replace f2 := keepf hb6 f2 l2
  replace r3 := keepc hb6 r3 l2
  replace f3 := keepf hb6 f3 l2
  replace r4 := keepc hb6 r4 l2
  replace f4 := keepf hb6 f4 l2
  replace l0 := Nat.lt_of_lt_of_le l0 hb6.size
  replace l1 := Nat.lt_of_lt_of_le l1 hb6.size
  replace l2 := Nat.lt_of_lt_of_le l2 hb6.size
  replace hx := hx.to hb6
  replace hy := hy.to hb6
  replace hd := hd.to hb6
  replace h1 := h1.to hb6
  replace h2 := h2.to hb6
  replace h4 := h4.to hb6
  replace h5 := h5.to hb6
  replace HW := Lib.hid (hstep HW hb6)
  clear hb6
  go_wp2_with fail
  have t1 := T1.out
  refine (one_any (d / g) A6 _ (by exact h6)).mono ?_
  rintro e w7 ⟨rfl, rfl⟩
  go_wp2_with fail
  have hone := H1.out
  exact bodyPost_ret (v := .agg #[.bool (sn a), .slice A4 (ln (ab a / g)) (ln (ab a / g)), .bool (sn b), .slice A5 (ln (ab b / g)) (ln (ab b / g)), .slice none 0 0]) (by simp [results, Try.results35, go_sem, r0, r1, r2, r3, r4, f0, f1, f2, f3, f4]) rfl (retNum_over hd0 HG.out HW (by exact h4) (by exact h5) (by rw [if_pos hone]; exact Nat32.zero _ _) (by omega) r0 _ _ _ rfl rfl (by rw [if_pos hone, ln_zero]))
/-- 'over(re, im, d)', d not 0. -/
theorem over_any (a b : Int) (d : Nat) (A B D : Option Addr) (w : World) (hx : Nat32 w A (ab a)) (hy : Nat32 w B (ab b)) (hd : Nat32 w D d) (hbx : ln (ab a) ≤ 1099511627776) (hby : ln (ab b) ≤ 1099511627776) (hbd : ln d ≤ 1099511627776) (hd0 : d ≠ 0) :
    Calls Try.prog 35 #[.agg #[.bool (sn (a)), .slice A (ln (ab (a))) (ln (ab (a)))], .agg #[.bool (sn (b)), .slice B (ln (ab (b))) (ln (ab (b)))], .slice D (ln d) (ln d)] w (RetNum w (fr a b d)) := by
  by_cases hg1 : gg a b d = 1 <;> by_cases h1 : d / gg a b d = 1
  · exact over_01 a b d A B D w hx hy hd hbx hby hbd hd0 _ rfl hg1 h1
  · exact over_00 a b d A B D w hx hy hd hbx hby hbd hd0 _ rfl hg1 h1
  · exact over_11 a b d A B D w hx hy hd hbx hby hbd hd0 _ rfl hg1 h1
  · exact over_10 a b d A B D w hx hy hd hbx hby hbd hd0 _ rfl hg1 h1
end Go.Proofs.Ytdpjknjlhchmcaa
