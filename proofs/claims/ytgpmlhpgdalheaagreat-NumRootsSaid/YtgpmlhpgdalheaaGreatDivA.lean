/- What the long division of two numbers in words computes, in plain numbers; the copy of a number into a row; LeadingZeros32. -/
import Derived.Test.YtgpmlhpgdalheaaGreatTake
import Derived.Test.YtgpmlhpgdalheaaGreatShelf
import Derived.Laws.CopyOwn
import Derived.Lib.ItoaNum
namespace Go.Proofs.YtgpmlhpgdalheaaGreat
open Go.RowKit Pl
set_option linter.unusedVariables false

/-- The shift that sets the highest bit of the highest word. -/
def lz (y : Nat) : Nat := 32 - Lib.bitLen (wd y (ln y - 1))

theorem lz_bounds {t : Nat} (ht : t ≠ 0) (hb : t < 4294967296) : Lib.bitLen t ≤ 32 ∧ 1 ≤ Lib.bitLen t ∧ 2147483648 ≤ t * 2 ^ (32 - Lib.bitLen t) ∧ (t + 1) * 2 ^ (32 - Lib.bitLen t) ≤ 4294967296 := by
  have h := Lib.bitLenAux_bounds 64 t (Nat.lt_trans hb (by decide)) ht
  have h32 : Lib.bitLen t ≤ 32 := Lib.bitLen_le t 32 (by omega) hb
  obtain ⟨h1, h2, h3⟩ := h
  have e : Lib.bitLenAux 64 t = Lib.bitLen t := rfl
  rw [e] at h1 h2 h3
  refine ⟨h32, h1, ?_, ?_⟩
  · have a := Nat.mul_le_mul_right (2 ^ (32 - Lib.bitLen t)) h2
    rw [← Nat.pow_add, show Lib.bitLen t - 1 + (32 - Lib.bitLen t) = 31 by omega] at a
    exact a
  · have a := Nat.mul_le_mul_right (2 ^ (32 - Lib.bitLen t)) (show t + 1 ≤ 2 ^ Lib.bitLen t from h3)
    rw [← Nat.pow_add, show Lib.bitLen t + (32 - Lib.bitLen t) = 32 by omega] at a
    exact a

theorem lz_le (y : Nat) (hy : y ≠ 0) : lz y ≤ 31 := by
  have h := lz_bounds (wd_last hy) (wd_lt _ _)
  unfold lz; omega

theorem top_word {y : Nat} (hy : y ≠ 0) : wd y (ln y - 1) = y / 4294967296 ^ (ln y - 1) := by
  have h := lt_ln y
  have h2 := ln_pos hy
  apply lin_top
  rw [show ln y - 1 + 1 = ln y by omega]; exact h

/-- The divisor, shifted: as long as before, its highest bit is set. -/
theorem norm_y {y : Nat} (hy : y ≠ 0) : y * 2 ^ lz y < 4294967296 ^ ln y ∧ 2147483648 * 4294967296 ^ (ln y - 1) ≤ y * 2 ^ lz y := by
  have h := lz_bounds (wd_last hy) (wd_lt _ _)
  have e := top_word hy
  have h2 := ln_pos hy
  have hp := pow_pos' (ln y - 1)
  have d1 := Nat.div_mul_le_self y (4294967296 ^ (ln y - 1))
  have d2 := Nat.lt_div_mul_add (a := y) hp
  have eL : (4294967296 : Nat) ^ ln y = 4294967296 * 4294967296 ^ (ln y - 1) := by
    conv => lhs; rw [show ln y = ln y - 1 + 1 by omega, Nat.pow_succ]
    rw [Nat.mul_comm]
  unfold lz
  rw [← e] at d1 d2
  generalize wd y (ln y - 1) = t at *
  generalize 4294967296 ^ (ln y - 1) = p at *
  rw [eL]
  generalize 2 ^ (32 - Lib.bitLen t) = z at *
  obtain ⟨_, _, a, b⟩ := h
  constructor
  · have c : y * z < (t + 1) * z * p := by
      have c1 : y + 1 ≤ (t + 1) * p := by rw [Nat.add_mul, Nat.one_mul]; omega
      have c2 := Nat.mul_le_mul_right z c1
      rw [Nat.add_mul, Nat.one_mul, Nat.mul_right_comm] at c2
      have hz : 0 < z := by
        rcases Nat.eq_zero_or_pos z with h0 | h0
        · rw [h0] at a; simp at a
        · exact h0
      omega
    exact Nat.lt_of_lt_of_le c (Nat.mul_le_mul_right p b)
  · have c := Nat.mul_le_mul_right p a
    have c2 := Nat.mul_le_mul_right z d1
    rw [Nat.mul_right_comm] at c2
    omega

/-- What is left of u when the words of the quotient from j on are done. -/
def ur (u V j : Nat) : Nat := u % (V * 4294967296 ^ j)
theorem ur_lt {u V j : Nat} (hV : 0 < V) : ur u V j / 4294967296 ^ j < V := by
  rw [Nat.div_lt_iff_lt_mul (pow_pos' j)]
  exact Nat.mod_lt _ (Nat.mul_pos hV (pow_pos' j))
theorem ur_step {u V j : Nat} (hV : 0 < V) :
    ur u V (j + 1) / 4294967296 ^ j / V = wd (u / V) j ∧ ur u V (j + 1) / 4294967296 ^ j < V * 4294967296 ∧
    ur u V j / 4294967296 ^ j = ur u V (j + 1) / 4294967296 ^ j % V ∧ ur u V j % 4294967296 ^ j = ur u V (j + 1) % 4294967296 ^ j := by
  have hp := pow_pos' j
  have hVp : 0 < V * 4294967296 ^ j := Nat.mul_pos hV hp
  have e : V * 4294967296 ^ (j + 1) = V * 4294967296 ^ j * 4294967296 := by rw [Nat.pow_succ, ← Nat.mul_assoc]
  have e1 : ur u V (j + 1) = u % (V * 4294967296 ^ j) + V * 4294967296 ^ j * (u / (V * 4294967296 ^ j) % 4294967296) := by
    unfold ur; rw [e, Nat.mod_mul]
  have e2 : ur u V (j + 1) / 4294967296 ^ j = u % (V * 4294967296 ^ j) / 4294967296 ^ j + V * (u / (V * 4294967296 ^ j) % 4294967296) := by
    rw [e1, show V * 4294967296 ^ j * (u / (V * 4294967296 ^ j) % 4294967296) = 4294967296 ^ j * (V * (u / (V * 4294967296 ^ j) % 4294967296)) by rw [Nat.mul_comm V, Nat.mul_assoc], Nat.add_mul_div_left _ _ hp]
  have e3 : u % (V * 4294967296 ^ j) / 4294967296 ^ j < V := by
    rw [Nat.div_lt_iff_lt_mul hp]; exact Nat.mod_lt _ hVp
  refine ⟨?_, ?_, ?_, ?_⟩
  · rw [e2, Nat.add_mul_div_left _ _ hV, Nat.div_eq_of_lt e3, Nat.zero_add, wd, Nat.div_div_eq_div_mul]
  · rw [e2]
    have h := Nat.mod_lt (u / (V * 4294967296 ^ j)) (show 0 < 4294967296 by omega)
    have h2 := Nat.mul_le_mul_left V (show u / (V * 4294967296 ^ j) % 4294967296 + 1 ≤ 4294967296 by omega)
    rw [Nat.mul_add, Nat.mul_one] at h2
    omega
  · rw [e2, Nat.add_mul_mod_self_left, Nat.mod_eq_of_lt e3]; rfl
  · rw [e1, show V * 4294967296 ^ j * (u / (V * 4294967296 ^ j) % 4294967296) = 4294967296 ^ j * (V * (u / (V * 4294967296 ^ j) % 4294967296)) by rw [Nat.mul_comm V, Nat.mul_assoc], Nat.add_mul_mod_self_left]; rfl

theorem ur_zero (u V : Nat) : ur u V 0 = u % V := by simp [ur]

/-- The dividend is below the divisor times the base to the number of the quotient's words. -/
theorem ur_top {x y : Nat} (hy : y ≠ 0) (hl : ln y ≤ ln x) : x * 2 ^ lz y < y * 2 ^ lz y * 4294967296 ^ (ln x + 1 - ln y) := by
  have h1 := norm_y hy
  have h2 := lt_ln x
  have h3 := lz_le y hy
  have h4 : 2 ^ lz y ≤ 2147483648 := Nat.pow_le_pow_right (n := 2) (by omega) (show lz y ≤ 31 from h3)
  have h5 := ln_pos hy
  have e : (4294967296 : Nat) ^ ln x = 4294967296 ^ (ln y - 1) * 4294967296 ^ (ln x + 1 - ln y) := by rw [← Nat.pow_add]; congr 1; omega
  have h6 : x * 2 ^ lz y < 4294967296 ^ ln x * 2147483648 := Nat.lt_of_lt_of_le (Nat.mul_lt_mul_of_pos_right h2 (Nat.pow_pos (by omega))) (Nat.mul_le_mul_left _ h4)
  have h7 := Nat.mul_le_mul_right (4294967296 ^ (ln x + 1 - ln y)) h1.2
  rw [Nat.mul_assoc, ← e, Nat.mul_comm 2147483648] at h7
  omega

theorem ur_all {u V j : Nat} (h : u < V * 4294967296 ^ j) : ur u V j = u := Nat.mod_eq_of_lt h

section
variable {P : Program}
/-- copy(u, v): the words of n are laid into a row of zeros. -/
theorem wpList_copy_words {w : World} {ops : Array Oper} {rest : List Oper} {o : Oper} {a : Act} {Q : Exit → Act → World → Prop} (hgd : o.guard = none) (d s : Operand) (dT sT : TypeId)
    (ho : o.op = .call { callee := .builtin .copy, args := #[d, s], argTypes := #[dT, sT] }) (elem : TypeId) (hu : P.underlying dT = some (.slice elem)) (hsz : (P.info? elem).map (·.size) = some 1)
    (g m n c : Nat) (A : Option Addr) (hd : a.eval d = .slice (some ⟨g, 0, none⟩) m m) (hs : a.eval s = .slice A (ln n) c)
    (hrow : w.rowIs g elem m (rowN 0)) (hA : Nat32 w A n) (hnm : ln n ≤ m)
    (h : ∀ w', w'.rowIs g elem m (rowN n) → w.grownBy w' (some g) → wpList P ops Q rest (a.put o.dst (goInt (ln n))) w') : wpList P ops Q (o :: rest) a w := by
  by_cases hn : n = 0
  · subst hn
    rw [ln_zero] at *
    exact wpList_copy_nothing hgd d s dT sT ho elem hu hsz _ _ _ _ _ _ hd hs (by simp) (h w hrow (World.grownBy.refl _ _))
  · obtain ⟨b, rfl, hb, hc⟩ := hA hn
    obtain ⟨cur, hg, hcs, hci⟩ := hrow
    have hl : ((List.range (ln n)).map (rowN n)).length = ln n := by simp
    refine wpList_copy_own hgd d s dT sT ho elem hu hsz g 0 m m ⟨b, 0, none⟩ (ln n) c hd hs cur elem hg ((List.range (ln n)).map (rowN n)) (by rw [hl]; exact (Nat.min_eq_left hnm).symm) ?_ (by rw [hl]; omega) ?_ ?_
    · intro j v hv
      have hj : j < ln n := by have := (List.getElem?_eq_some_iff.1 hv).1; simpa using this
      rw [List.getElem?_map, List.getElem?_range hj] at hv
      simp only [Option.map_some, Option.some.injEq] at hv
      subst hv
      rw [Addr.add_lit, Nat.zero_add]
      exact hc j hj
    · intro v hv
      obtain ⟨j, _, rfl⟩ := List.mem_map.1 hv
      rfl
    · rw [hl]
      refine h _ ⟨_, setRow_heap w g _ _ elem _ hg, by simp [hcs]; omega, fun i hi => ?_⟩ ⟨rfl, rfl, rfl, by simp [World.setRow], fun k hk hne => setRow_other w g k _ (fun e => hne (by rw [e]))⟩
      rw [List.getElem?_toArray]
      by_cases hin : i < ln n
      · rw [List.take_zero, List.nil_append, List.getElem?_append_left (by simpa using hin), List.getElem?_map, List.getElem?_range hin]; rfl
      · rw [List.take_zero, List.nil_append, List.getElem?_append_right (by simp; omega), List.getElem?_drop, Nat.zero_add, hl, show ln n + (i - ln n) = i by omega, Array.getElem?_toList, hci i hi]
        unfold rowN; rw [wd_zero, wd_high (by omega)]
end

theorem Tryz.size_u32 : (Tryz.prog.info? 45).map (·.size) = some 1 := by kernel_rfl

end Go.Proofs.YtgpmlhpgdalheaaGreat
