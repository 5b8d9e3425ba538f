/- Plain arithmetic of numbers in words of 32 bits, the lowest word first: value, digits, length. No program is in sight, no condition but those that stand at each theorem. -/
namespace Go.Proofs.YtgpmlhpgdalheaaGreat
namespace Pl

/-- The value of a list of words. -/
def nv : List Nat → Nat
  | [] => 0
  | d :: l => d + 4294967296 * nv l

def Ok (l : List Nat) : Prop := ∀ d ∈ l, d < 4294967296

theorem Ok.nil : Ok [] := by intro d h; cases h
theorem Ok.cons {d : Nat} {l : List Nat} (h : d < 4294967296) (k : Ok l) : Ok (d :: l) := by
  intro e he
  rcases List.mem_cons.1 he with rfl | he
  · exact h
  · exact k e he
theorem Ok.head {d : Nat} {l : List Nat} (h : Ok (d :: l)) : d < 4294967296 := h d (by simp)
theorem Ok.tail {d : Nat} {l : List Nat} (h : Ok (d :: l)) : Ok l := fun e he => h e (by simp [he])
theorem Ok.append {a b : List Nat} (h : Ok a) (k : Ok b) : Ok (a ++ b) := by
  intro d hd
  rcases List.mem_append.1 hd with hd | hd
  · exact h d hd
  · exact k d hd
theorem Ok.take {l : List Nat} (h : Ok l) (n : Nat) : Ok (l.take n) := fun d hd => h d (List.mem_of_mem_take hd)
theorem Ok.drop {l : List Nat} (h : Ok l) (n : Nat) : Ok (l.drop n) := fun d hd => h d (List.mem_of_mem_drop hd)
theorem Ok.replicate (n : Nat) : Ok (List.replicate n 0) := by
  intro d hd
  have := List.eq_of_mem_replicate hd
  omega
theorem Ok.getD {l : List Nat} (h : Ok l) (i : Nat) : l.getD i 0 < 4294967296 := by
  by_cases hi : i < l.length
  · have : l.getD i 0 = l[i] := by simp [List.getD, hi]
    rw [this]; exact h _ (List.getElem_mem hi)
  · have : l.getD i 0 = 0 := by rw [List.getD_eq_getElem?_getD, List.getElem?_eq_none (by omega)]; rfl
    rw [this]; omega
theorem Ok.set {l : List Nat} (h : Ok l) (i : Nat) {v : Nat} (hv : v < 4294967296) : Ok (l.set i v) := by
  intro d hd
  rcases List.mem_or_eq_of_mem_set hd with hd | rfl
  · exact h d hd
  · exact hv

theorem pow_pos' (k : Nat) : 0 < 4294967296 ^ k := Nat.pow_pos (by omega)

theorem nv_append (a b : List Nat) : nv (a ++ b) = nv a + 4294967296 ^ a.length * nv b := by
  induction a with
  | nil => simp [nv]
  | cons d a ih =>
    simp only [List.cons_append, nv, ih, List.length_cons, Nat.pow_succ, Nat.mul_add]
    rw [Nat.mul_comm (4294967296 ^ a.length) 4294967296, Nat.mul_assoc]
    omega

theorem nv_lt {l : List Nat} (h : Ok l) : nv l < 4294967296 ^ l.length := by
  induction l with
  | nil => simp [nv]
  | cons d l ih =>
    have h1 := h.head
    have h2 := ih h.tail
    simp only [nv, List.length_cons, Nat.pow_succ]
    omega

theorem nv_replicate (n : Nat) : nv (List.replicate n 0) = 0 := by
  induction n with
  | zero => rfl
  | succ n ih => simp [List.replicate_succ, nv, ih]

theorem nv_set (l : List Nat) (i v : Nat) (h : i < l.length) : nv (l.set i v) + 4294967296 ^ i * l.getD i 0 = nv l + 4294967296 ^ i * v := by
  induction l generalizing i with
  | nil => simp at h
  | cons d l ih =>
    cases i with
    | zero => simp [nv]; omega
    | succ i =>
      have := ih i (by simpa using h)
      simp only [List.set_cons_succ, nv, List.getD_cons_succ, Nat.pow_succ]
      rw [Nat.mul_comm (4294967296 ^ i) 4294967296, Nat.mul_assoc, Nat.mul_assoc]
      omega

theorem nv_take_succ (l : List Nat) (i : Nat) (h : i < l.length) : nv (l.take (i + 1)) = nv (l.take i) + 4294967296 ^ i * l.getD i 0 := by
  rw [List.take_succ_eq_append_getElem h, nv_append]
  have : (l.take i).length = i := by simp; omega
  simp [this, nv, List.getD, h]

theorem nv_split (l : List Nat) (i : Nat) (h : i ≤ l.length) : nv l = nv (l.take i) + 4294967296 ^ i * nv (l.drop i) := by
  have e := nv_append (l.take i) (l.drop i)
  rw [List.take_append_drop] at e
  have : (l.take i).length = i := by simp; omega
  rw [this] at e
  exact e

theorem nv_drop_succ (l : List Nat) (i : Nat) (h : i < l.length) : nv (l.drop i) = l.getD i 0 + 4294967296 * nv (l.drop (i + 1)) := by
  rw [List.drop_eq_getElem_cons h]
  simp [nv, List.getD, h]

/-- No zero at the end. -/
def Nm (l : List Nat) : Prop := Ok l ∧ (l ≠ [] → l.getD (l.length - 1) 0 ≠ 0)

theorem Nm.nil : Nm [] := ⟨Ok.nil, fun h => absurd rfl h⟩

theorem nv_ge {l : List Nat} (h : Nm l) (hn : l ≠ []) : 4294967296 ^ (l.length - 1) ≤ nv l := by
  have hp : 0 < l.length := List.length_pos_iff.2 hn
  have h1 := nv_split l (l.length - 1) (by omega)
  have h2 := nv_drop_succ l (l.length - 1) (by omega)
  have h3 := h.2 hn
  have h5 : 1 ≤ nv (l.drop (l.length - 1)) := by omega
  have h6 := Nat.mul_le_mul_left (4294967296 ^ (l.length - 1)) h5
  omega

theorem eq_of_nv {a b : List Nat} (ha : Ok a) (hb : Ok b) (hl : a.length = b.length) (h : nv a = nv b) : a = b := by
  induction a generalizing b with
  | nil => cases b with
    | nil => rfl
    | cons e b => simp at hl
  | cons d a ih => cases b with
    | nil => simp at hl
    | cons e b =>
      have h1 := ha.head
      have h2 := hb.head
      simp only [nv] at h
      have h3 : d = e := by omega
      have h4 : nv a = nv b := by omega
      rw [h3, ih ha.tail hb.tail (by simpa using hl) h4]

theorem len_le_of_nv {a b : List Nat} (ha : Nm a) (hb : Ok b) (h : nv a ≤ nv b) : a.length ≤ b.length := by
  by_cases hn : a = []
  · simp [hn]
  · have h1 := nv_ge ha hn
    have h2 := nv_lt hb
    have h3 : 4294967296 ^ (a.length - 1) < 4294967296 ^ b.length := by omega
    have h4 := (Nat.pow_lt_pow_iff_right (show 1 < 4294967296 by omega)).1 h3
    omega

theorem Nm.inj {a b : List Nat} (ha : Nm a) (hb : Nm b) (h : nv a = nv b) : a = b :=
  eq_of_nv ha.1 hb.1 (Nat.le_antisymm (len_le_of_nv ha hb.1 (by omega)) (len_le_of_nv hb ha.1 (by omega))) h

/-- The words of a number. -/
def dg (n : Nat) : List Nat := if n = 0 then [] else n % 4294967296 :: dg (n / 4294967296)
termination_by n
decreasing_by omega

theorem dg_zero : dg 0 = [] := by rw [dg]; rfl
theorem dg_pos {n : Nat} (h : n ≠ 0) : dg n = n % 4294967296 :: dg (n / 4294967296) := by rw [dg, if_neg h]

theorem nv_dg (n : Nat) : nv (dg n) = n := by
  induction n using Nat.strongRecOn with
  | ind n ih =>
    by_cases h : n = 0
    · subst h; rw [dg_zero]; rfl
    · rw [dg_pos h, nv, ih (n / 4294967296) (by omega)]; omega

theorem dg_ne {n : Nat} (h : n ≠ 0) : dg n ≠ [] := by rw [dg_pos h]; simp

theorem dg_Nm (n : Nat) : Nm (dg n) := by
  induction n using Nat.strongRecOn with
  | ind n ih =>
    by_cases h : n = 0
    · subst h; rw [dg_zero]; exact Nm.nil
    · have hi := ih (n / 4294967296) (by omega)
      rw [dg_pos h]
      refine ⟨Ok.cons (by omega) hi.1, fun _ => ?_⟩
      by_cases h2 : n / 4294967296 = 0
      · rw [h2, dg_zero]; simp; omega
      · have h3 := hi.2 (dg_ne h2)
        have h4 : 0 < (dg (n / 4294967296)).length := List.length_pos_iff.2 (dg_ne h2)
        have h5 : (n % 4294967296 :: dg (n / 4294967296)).length - 1 = ((dg (n / 4294967296)).length - 1) + 1 := by simp; omega
        rw [h5, List.getD_cons_succ]; exact h3

theorem dg_Ok (n : Nat) : Ok (dg n) := (dg_Nm n).1

theorem dg_nv {l : List Nat} (h : Nm l) : dg (nv l) = l := (dg_Nm _).inj h (nv_dg _)

/-- The number of words. -/
def ln (n : Nat) : Nat := (dg n).length

theorem ln_zero : ln 0 = 0 := by rw [ln, dg_zero]; rfl
theorem ln_pos {n : Nat} (h : n ≠ 0) : 0 < ln n := List.length_pos_iff.2 (dg_ne h)
theorem ln_eq_zero {n : Nat} : ln n = 0 ↔ n = 0 := ⟨fun h => by by_cases hn : n = 0; exact hn; have := ln_pos hn; omega, fun h => by rw [h, ln_zero]⟩
theorem lt_ln (n : Nat) : n < 4294967296 ^ ln n := by have := nv_lt (dg_Ok n); rwa [nv_dg] at this
theorem ln_ge {n : Nat} (h : n ≠ 0) : 4294967296 ^ (ln n - 1) ≤ n := by have := nv_ge (dg_Nm n) (dg_ne h); rwa [nv_dg] at this
theorem ln_le {n k : Nat} (h : n < 4294967296 ^ k) : ln n ≤ k := by
  by_cases hn : n = 0
  · rw [hn, ln_zero]; omega
  · have h1 := ln_ge hn
    have h2 := (Nat.pow_lt_pow_iff_right (show 1 < 4294967296 by omega)).1 (Nat.lt_of_le_of_lt h1 h)
    omega
theorem ln_mono {a b : Nat} (h : a ≤ b) : ln a ≤ ln b := ln_le (Nat.lt_of_le_of_lt h (lt_ln b))
theorem ln_add (a b : Nat) : ln (a + b) ≤ max (ln a) (ln b) + 1 := by
  apply ln_le
  have h1 : a < 4294967296 ^ max (ln a) (ln b) := Nat.lt_of_lt_of_le (lt_ln a) (Nat.pow_le_pow_right (by omega) (Nat.le_max_left _ _))
  have h2 : b < 4294967296 ^ max (ln a) (ln b) := Nat.lt_of_lt_of_le (lt_ln b) (Nat.pow_le_pow_right (by omega) (Nat.le_max_right _ _))
  rw [Nat.pow_succ]; omega
theorem ln_mul (a b : Nat) : ln (a * b) ≤ ln a + ln b := by
  apply ln_le
  rw [Nat.pow_add]
  have h1 := lt_ln a
  have h2 := lt_ln b
  exact Nat.mul_lt_mul'' h1 h2
theorem ln_one : ln 1 = 1 := by
  have h1 : ln 1 ≤ 1 := ln_le (by omega)
  have h2 := ln_pos (show (1 : Nat) ≠ 0 by omega)
  omega
theorem ln_word {d : Nat} (h : d < 4294967296) : ln d ≤ 1 := ln_le (by omega)
theorem lt_of_ln_lt {a b : Nat} (h : ln a < ln b) : a < b := by
  by_cases hb : a < b
  · exact hb
  · have := ln_mono (show b ≤ a by omega); omega

/-- What 'trim' leaves. -/
theorem dg_trim {l : List Nat} (h : Ok l) (n : Nat) (hn : n ≤ l.length) (hz : nv (l.drop n) = 0) (he : n = 0 ∨ l.getD (n - 1) 0 ≠ 0) : l.take n = dg (nv l) := by
  have h1 : Nm (l.take n) := by
    refine ⟨h.take n, fun hne => ?_⟩
    have hl : (l.take n).length = n := by simp; omega
    rw [hl]
    rcases he with rfl | he
    · simp at hne
    · have : 0 < n := by
        rcases Nat.eq_zero_or_pos n with rfl | h0
        · simp at hne
        · exact h0
      rw [List.getD_eq_getElem?_getD, List.getElem?_take_of_lt (by omega), ← List.getD_eq_getElem?_getD]
      exact he
  have h2 := nv_split l n hn
  rw [hz] at h2
  rw [h2, Nat.mul_zero, Nat.add_zero]
  exact (dg_nv h1).symm

theorem drop_zero_step {l : List Nat} {n : Nat} (hn : n + 1 ≤ l.length) (hz : nv (l.drop (n + 1)) = 0) (h0 : l.getD n 0 = 0) : nv (l.drop n) = 0 := by
  rw [nv_drop_succ l n (by omega), hz, h0]

theorem getD_of_nv_zero {l : List Nat} (h : nv l = 0) (i : Nat) : l.getD i 0 = 0 := by
  induction l generalizing i with
  | nil => simp
  | cons d l ih =>
    simp only [nv] at h
    cases i with
    | zero => simp; omega
    | succ i => rw [List.getD_cons_succ]; exact ih (by omega) i

end Pl
end Go.Proofs.YtgpmlhpgdalheaaGreat
