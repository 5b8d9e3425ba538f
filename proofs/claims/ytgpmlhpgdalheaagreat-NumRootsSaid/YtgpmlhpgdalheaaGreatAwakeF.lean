/- 'awake' answers true. -/
import Derived.Test.YtgpmlhpgdalheaaGreatAwake
namespace Go.Proofs.YtgpmlhpgdalheaaGreat
open Go.RowKit Pl
set_option linter.unusedVariables false
set_option linter.unusedSimpArgs false

theorem rep_of {a b : Int} {d : Nat} {z : Cx} (hd : 0 < d) (hg : Nat.gcd (Nat.gcd a.natAbs b.natAbs) d = 1) (h1 : (a : Rat) = z.re * (d : Rat)) (h2 : (b : Rat) = z.im * (d : Rat)) : na z = a ∧ nb z = b ∧ nd z = d := of_rep ⟨hd, hg, h1, h2⟩
theorem sz_rep {a b : Int} {d K : Nat} {z : Cx} (h : na z = a ∧ nb z = b ∧ nd z = d) (ha : ln (ab a) ≤ K) (hb : ln (ab b) ≤ K) (hd : ln d ≤ K) : sz K z := ⟨by rw [h.1]; exact ha, by rw [h.2.1]; exact hb, by rw [h.2.2]; exact hd⟩
def ca : Cx := ⟨1, 2⟩
def cb : Cx := ⟨3, -1⟩
def cq : Cx := ⟨1 / 10, 7 / 10⟩
def ci : Cx := ⟨0, 1⟩
def cd : Cx := ⟨3, -2⟩
def cn : Cx := ⟨1 / 2, 0⟩
theorem ca_eq : ofv 1 2 0 = ca := by unfold ofv frz ca; simp; grind
theorem cb_eq : ofv 3 (-1) 0 = cb := by unfold ofv frz cb; simp; grind
theorem ci_eq : ofv 0 1 0 = ci := by unfold ofv frz ci; simp; grind
theorem cq_eq : ca.div cb = cq := by unfold ca cb cq Cx.div Cx.nrm; simp only [Cx.mk.injEq]; constructor <;> grind
theorem cn_eq : cq.norm = cn := by unfold cq cn Cx.norm Cx.nrm; simp only [Cx.mk.injEq]; constructor <;> grind
theorem cu_eq : (Cx.ofInt 3).sub (((Cx.ofInt 2).div (Cx.ofInt 1)).mul ci) = cd := by
  unfold Cx.ofInt ci cd Cx.div Cx.nrm Cx.mul Cx.sub Cx.add Cx.neg; simp only [Cx.mk.injEq]; constructor <;> simp <;> grind
theorem cd_eq : (Cx.ofInt 1).mul cd = cd := by unfold Cx.ofInt cd Cx.mul; simp only [Cx.mk.injEq]; constructor <;> simp <;> grind
theorem cb_ne : cb ≠ Cx.zero := by unfold cb Cx.zero; intro h; injection h with h1 h2; revert h1; decide
theorem c1_ne : Cx.ofInt 1 ≠ Cx.zero := by unfold Cx.ofInt Cx.zero; intro h; injection h with h1 h2; revert h1; simp
theorem cd_ne : cd ≠ Cx.zero := by unfold cd Cx.zero; intro h; injection h with h1 h2; revert h1; decide
theorem cq_form : na cq = 1 ∧ nb cq = 7 ∧ nd cq = 10 := rep_of (by omega) (by decide) (by unfold cq; simp; grind) (by unfold cq; simp; grind)
theorem cn_form : na cn = 1 ∧ nb cn = 0 ∧ nd cn = 2 := rep_of (by omega) (by decide) (by unfold cn; simp; grind) (by unfold cn; simp)
theorem cd_form : na cd = 3 ∧ nb cd = -2 ∧ nd cd = 1 := rep_of (by omega) (by decide) (by unfold cd; simp) (by unfold cd; simp)
theorem small_ln {n : Nat} (h : n < 4294967296) : ln n ≤ 1 := ln_le (n := n) (k := 1) (by omega)
theorem dec_1 : dec 1 = ⟨#[49]⟩ := by unfold dec; rw [if_neg (by omega), rd_pos (by omega), show 1 / 10 = 0 from rfl, rd_zero]; rfl
theorem dec_2 : dec 2 = ⟨#[50]⟩ := by unfold dec; rw [if_neg (by omega), rd_pos (by omega), show 2 / 10 = 0 from rfl, rd_zero]; rfl
theorem dec_3 : dec 3 = ⟨#[51]⟩ := by unfold dec; rw [if_neg (by omega), rd_pos (by omega), show 3 / 10 = 0 from rfl, rd_zero]; rfl
theorem dec_7 : dec 7 = ⟨#[55]⟩ := by unfold dec; rw [if_neg (by omega), rd_pos (by omega), show 7 / 10 = 0 from rfl, rd_zero]; rfl
theorem dec_10 : dec 10 = ⟨#[49, 48]⟩ := by unfold dec; rw [if_neg (by omega), rd_pos (by omega), show 10 / 10 = 1 from rfl, rd_pos (by omega), show 1 / 10 = 0 from rfl, rd_zero]; rfl
theorem fr_at {a : Int} {d : Nat} (hd : 0 < d) (hg : Nat.gcd (Nat.gcd a.natAbs 0) d = 1) : na (fr a 0 d) = a ∧ nb (fr a 0 d) = 0 ∧ nd (fr a 0 d) = d := rep_of hd (by simpa using hg) (by unfold fr; have := rat_ne hd; simp only []; grind) (by unfold fr; simp; grind)
theorem part_lit {a : Int} {d : Nat} {s : ByteArray} (hd : 0 < d) (hg : Nat.gcd (Nat.gcd a.natAbs 0) d = 1) (h : (if d = 1 then (if sn a = true then ⟨#[45]⟩ ++ dec (ab a) else dec (ab a)) else (if sn a = true then ⟨#[45]⟩ ++ dec (ab a) else dec (ab a)) ++ (⟨#[47]⟩ ++ dec d)) = s) : partT (fr a 0 d) = s := by
  obtain ⟨h1, h2, h3⟩ := fr_at hd hg
  unfold partT sgT un
  rw [h1, h3]
  by_cases c : d = 1
  · simp only [c, if_true] at *; exact h
  · simp only [c, if_false] at *; rw [if_neg (by omega)]; exact h
theorem tq_eq : textT cq = ⟨#[49, 47, 49, 48, 43, 55, 47, 49, 48, 105]⟩ := by
  obtain ⟨h1, h2, h3⟩ := cq_form
  unfold textT imT
  rw [h1, h2, h3, part_lit (a := 1) (d := 10) (s := ⟨#[49, 47, 49, 48]⟩) (by omega) (by decide) (by simp [sn, ab, dec_1, dec_10]; rfl), part_lit (a := 7) (d := 10) (s := ⟨#[55, 47, 49, 48]⟩) (by omega) (by decide) (by simp [sn, ab, dec_7, dec_10]; rfl)]
  simp [sn]
  rfl
theorem tn_eq : textT cn = ⟨#[49, 47, 50]⟩ := by
  obtain ⟨h1, h2, h3⟩ := cn_form
  unfold textT
  rw [h1, h2, h3, part_lit (a := 1) (d := 2) (s := ⟨#[49, 47, 50]⟩) (by omega) (by decide) (by simp [sn, ab, dec_1, dec_2]; rfl)]
  rfl
theorem td_eq : textT cd = ⟨#[51, 45, 50, 105]⟩ := by
  obtain ⟨h1, h2, h3⟩ := cd_form
  unfold textT imT
  rw [h1, h2, h3, part_lit (a := 3) (d := 1) (s := ⟨#[51]⟩) (by omega) (by decide) (by simp [sn, ab, dec_3]), part_lit (a := -2) (d := 1) (s := ⟨#[45, 50]⟩) (by omega) (by decide) (by simp [sn, ab, dec_2]; rfl)]
  simp [sn]
  rfl

/-- 'awake' answers true. -/
theorem awake_any (w : World) : Calls Tryz.prog 23 #[] w (RetBool w true) :=
  awake0 w ca cb cq ci (Cx.ofInt 1) (Cx.ofInt 2) (Cx.ofInt 3) cd cn ca_eq cb_eq cb_ne cq_eq ci_eq rfl rfl rfl c1_ne (by rw [cu_eq]; exact cd_ne) (by rw [cu_eq]; exact cd_eq) cn_eq tq_eq tn_eq td_eq cq_form.1 cq_form.2.1 cq_form.2.2
    (by rw [← ca_eq]; exact sz_of (by omega) (by omega) (by omega)) (by rw [← cb_eq]; exact sz_of (by omega) (by omega) (by omega))
    (sz_rep cq_form (Nat.le_trans (small_ln (by decide)) (by omega)) (Nat.le_trans (small_ln (by decide)) (by omega)) (Nat.le_trans (small_ln (by decide)) (by omega)))
    (by rw [← ci_eq]; exact sz_of (by omega) (by omega) (by omega))
    (sz_int (Nat.le_trans (small_ln (by decide)) (by omega)) (by omega)) (sz_int (Nat.le_trans (small_ln (by decide)) (by omega)) (by omega)) (sz_int (Nat.le_trans (small_ln (by decide)) (by omega)) (by omega))
    (sz_rep cd_form (Nat.le_trans (small_ln (by decide)) (by omega)) (Nat.le_trans (small_ln (by decide)) (by omega)) (Nat.le_trans (small_ln (by decide)) (by omega)))
    (sz_rep cn_form (Nat.le_trans (small_ln (by decide)) (by omega)) (Nat.le_trans (small_ln (by decide)) (by omega)) (Nat.le_trans (small_ln (by decide)) (by omega)))
end Go.Proofs.YtgpmlhpgdalheaaGreat
