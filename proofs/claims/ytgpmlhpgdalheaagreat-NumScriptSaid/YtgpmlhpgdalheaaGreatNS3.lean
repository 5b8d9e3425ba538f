/- Part 3 of the proof. -/
import Derived.Test.YtgpmlhpgdalheaaGreatNS2
import Derived.LoopN
import Derived.Test.YtgpmlhpgdalheaaGreatNS1
import Derived.Deep.LoopGhost
import Derived.Maps.AppendAt
import Derived.Laws.BytesString
import Derived.Laws.Cells
import Derived.Deep.AppendLies
namespace Go.Proofs.YtgpmlhpgdalheaaGreat
open Go.RowKit Pl
set_option linter.unusedVariables false
set_option linter.unusedSimpArgs false
/-- A call hands back a number and an error number. -/
def RetNumE (w : World) (c : Int) (q : Cx) (e : Ending) (w' : World) : Prop := ∃ A1 A2 A3, e = .returned (.tuple #[.agg #[.bool (sn (na q)), .slice A1 (ln (ab (na q))) (ln (ab (na q))), .bool (sn (nb q)), .slice A2 (ln (ab (nb q))) (ln (ab (nb q))), .slice A3 (ln (un q)) (ln (un q))], .int .i64 c]) ∧ Num3 w' A1 A2 A3 q ∧ Below w.heap.size w w'
theorem ret_and {a b c : Value} (h : Ending.returned a = .returned b) : Ending.returned (.tuple #[a, c]) = .returned (.tuple #[b, c]) := by injection h with h; rw [h]
theorem retNumE_fin {w W : World} {q : Cx} {A1 A2 A3 : Option Addr} {R : Nat} {c : Bool} {k : Int} (hB : Hid (Below w.heap.size w W)) (h1 : Num3 W A1 A2 A3 q) (hR : w.heap.size ≤ R) (r0 : W.cell? ⟨R, 0, none⟩ = some (.bool c)) :
    RetNumE w k q (.returned (.tuple #[.agg #[.bool (sn (na q)), .slice A1 (ln (ab (na q))) (ln (ab (na q))), .bool (sn (nb q)), .slice A2 (ln (ab (nb q))) (ln (ab (nb q))), .slice A3 (ln (un q)) (ln (un q))], .int .i64 k]))
      (((((W.setCell ⟨R, 0, none⟩ (.bool (sn (na q)))).setCell ⟨R, 1, none⟩ (.slice A1 (ln (ab (na q))) (ln (ab (na q))))).setCell ⟨R, 2, none⟩ (.bool (sn (nb q)))).setCell ⟨R, 3, none⟩ (.slice A2 (ln (ab (nb q))) (ln (ab (nb q))))).setCell ⟨R, 4, none⟩ (.slice A3 (ln (un q)) (ln (un q)))) := by
  obtain ⟨B1, B2, B3, e, h⟩ := retNum_fin (A1 := A1) (A2 := A2) (A3 := A3) hB h1 hR r0
  exact ⟨B1, B2, B3, ret_and e, h⟩
theorem zero_form : na Cx.zero = 0 ∧ nb Cx.zero = 0 ∧ un Cx.zero = 0 := by
  obtain ⟨e1, e2, e3⟩ := ofInt_form 0
  exact ⟨e1, e2, un_one e3⟩
theorem norm_ne {y : Cx} (h0 : y ≠ Cx.zero) : ab (na y * na y + nb y * nb y) ≠ 0 := by
  intro h
  have h1 : na y * na y + nb y * nb y = 0 := by unfold ab at h; omega
  have ha : 0 ≤ na y * na y := by rcases Int.le_total 0 (na y) with h | h; exact Int.mul_nonneg h h; exact Int.mul_nonneg_of_nonpos_of_nonpos h h
  have hb : 0 ≤ nb y * nb y := by rcases Int.le_total 0 (nb y) with h | h; exact Int.mul_nonneg h h; exact Int.mul_nonneg_of_nonpos_of_nonpos h h
  have ea : na y = 0 := by rcases Int.mul_eq_zero.1 (show na y * na y = 0 by omega) with h | h <;> exact h
  have eb : nb y = 0 := by rcases Int.mul_eq_zero.1 (show nb y * nb y = 0 by omega) with h | h <;> exact h
  exact h0 ((zero_iff y).1 ⟨ea, eb⟩)
theorem div_ne (x : Cx) {y : Cx} (h0 : y ≠ Cx.zero) : nd (x.mul (fr (na y) (-nb y) 1)) * ab (na y * na y + nb y * nb y) ≠ 0 := Nat.mul_ne_zero (nd_ne0 _) (norm_ne h0)
theorem ab_norm (y : Cx) : ((ab (na y * na y + nb y * nb y) : Nat) : Rat) = Cx.nrm y * (nd y : Rat) * (nd y : Rat) := by
  have ha : 0 ≤ na y * na y := by rcases Int.le_total 0 (na y) with h | h; exact Int.mul_nonneg h h; exact Int.mul_nonneg_of_nonpos_of_nonpos h h
  have hb : 0 ≤ nb y * nb y := by rcases Int.le_total 0 (nb y) with h | h; exact Int.mul_nonneg h h; exact Int.mul_nonneg_of_nonpos_of_nonpos h h
  have e : ((ab (na y * na y + nb y * nb y) : Nat) : Int) = na y * na y + nb y * nb y := by unfold ab; omega
  have e2 : ((ab (na y * na y + nb y * nb y) : Nat) : Rat) = (na y : Rat) * (na y : Rat) + (nb y : Rat) * (nb y : Rat) := by
    rw [← Rat.intCast_natCast, e, Rat.intCast_add, Rat.intCast_mul, Rat.intCast_mul]
  rw [e2, na_eq, nb_eq]; unfold Cx.nrm; grind
theorem div_fr (x : Cx) {y : Cx} (h0 : y ≠ Cx.zero) : fr (na (x.mul (fr (na y) (-nb y) 1)) * (nd y : Int)) (nb (x.mul (fr (na y) (-nb y) 1)) * (nd y : Int)) (nd (x.mul (fr (na y) (-nb y) 1)) * ab (na y * na y + nb y * nb y)) = x.div y := by
  have hn := ab_norm y
  have h1 : ((ab (na y * na y + nb y * nb y) : Nat) : Rat) ≠ 0 := by
    intro h; exact norm_ne h0 (by exact_mod_cast h)
  have hr : Cx.nrm y ≠ 0 := by intro h; rw [h] at hn; grind
  have hz1 : (x.mul (fr (na y) (-nb y) 1)).re = (x.re * y.re + x.im * y.im) * (nd y : Rat) := by
    simp only [Cx.mul, fr, Rat.intCast_neg, na_eq, nb_eq]; grind
  have hz2 : (x.mul (fr (na y) (-nb y) 1)).im = (x.im * y.re - x.re * y.im) * (nd y : Rat) := by
    simp only [Cx.mul, fr, Rat.intCast_neg, na_eq, nb_eq]; grind
  have k1 := na_eq (x.mul (fr (na y) (-nb y) 1))
  have k2 := nb_eq (x.mul (fr (na y) (-nb y) 1))
  rw [hz1] at k1
  rw [hz2] at k2
  refine fr_eq (Nat.pos_of_ne_zero (div_ne x h0)) ?_ ?_
  · rw [Rat.intCast_mul, k1, Rat.natCast_mul, hn, Rat.intCast_natCast]; simp only [Cx.div]; grind
  · rw [Rat.intCast_mul, k2, Rat.natCast_mul, hn, Rat.intCast_natCast]; simp only [Cx.div]; grind
/-- A new slice of the one word 1. -/
theorem nat1_new (V : World) (T : TypeId) : Nat32 (V.alloc (.cells #[.int .u32 1] T)) (some ⟨V.heap.size, 0, none⟩) 1 := fun _ => ⟨V.heap.size, rfl, by simp, fun j hj => by
  rw [ln_one] at hj; obtain rfl : j = 0 := by omega
  rw [show wd 1 0 = 1 by rw [wd_0]]
  go_simp⟩
/-- 'over(re, im, nat{1})'. -/
theorem over1_any (a b : Int) (A B D : Option Addr) (w : World) (hx : Nat32 w A (ab a)) (hy : Nat32 w B (ab b)) (hd : Nat32 w D 1) (hbx : ln (ab a) ≤ 1099511627776) (hby : ln (ab b) ≤ 1099511627776) :
    Calls Tryz.prog 96 #[.agg #[.bool (sn (a)), .slice A (ln (ab (a))) (ln (ab (a)))], .agg #[.bool (sn (b)), .slice B (ln (ab (b))) (ln (ab (b)))], .slice D 1 1] w (RetNum w (fr a b 1)) := by
  have h := over_any a b 1 A B D w hx hy hd hbx hby (by rw [ln_one]; omega) (by omega)
  rw [ln_one] at h
  exact h
/-- The cells of a number. -/
def Cells5 (w : World) (g : Nat) (q : Cx) (A1 A2 A3 : Option Addr) : Prop := w.cell? ⟨g, 0, none⟩ = some (.bool (sn (na q))) ∧ w.cell? ⟨g, 1, none⟩ = some (.slice A1 (ln (ab (na q))) (ln (ab (na q)))) ∧ w.cell? ⟨g, 2, none⟩ = some (.bool (sn (nb q))) ∧ w.cell? ⟨g, 3, none⟩ = some (.slice A2 (ln (ab (nb q))) (ln (ab (nb q)))) ∧ w.cell? ⟨g, 4, none⟩ = some (.slice A3 (ln (un q)) (ln (un q)))
/-- A local variable that holds a number. -/
def VarNum (W : World) (q : Cx) (p : Value) (wx : World) : Prop := ∃ g A1 A2 A3, p = .pointer (some ⟨g, 0, none⟩) ∧ Cells5 wx g q A1 A2 A3 ∧ Num3 wx A1 A2 A3 q ∧ W.heap.size ≤ g ∧ g < wx.heap.size ∧ Below W.heap.size W wx
theorem keepd {w : World} {b i : Nat} {v : Value} (h : w.cell? ⟨b, i, none⟩ = some v) : w.drew.cell? ⟨b, i, none⟩ = some v := h
theorem lta {w : World} {o : Obj} {b : Nat} (h : b < w.heap.size) : b < (w.alloc o).heap.size := by simp; omega
theorem newnat {V w1 : World} {T : TypeId} (h : Below (V.alloc (.cells #[.int .u32 1] T)).heap.size (V.alloc (.cells #[.int .u32 1] T)) w1) : Nat32 w1 (some ⟨V.heap.size, 0, none⟩) 1 := (nat1_new V T).to h
theorem newnat1 {V w1 : World} {o : Obj} {T : TypeId} (h : Below ((V.alloc o).alloc (.cells #[.int .u32 1] T)).heap.size ((V.alloc o).alloc (.cells #[.int .u32 1] T)) w1) : Nat32 w1 (some ⟨V.heap.size + 1, 0, none⟩) 1 := by
  have := newnat h; simpa using this
theorem nat1_new1 (V : World) (o : Obj) (T : TypeId) : Nat32 ((V.alloc o).alloc (.cells #[.int .u32 1] T)) (some ⟨V.heap.size + 1, 0, none⟩) 1 := by
  have := nat1_new (V.alloc o) T; simpa using this
/-- A new variable for a number, made at or above the block B. -/
def NewVarN (B g : Nat) (w : World) : Prop := B ≤ g ∧ g < w.heap.size ∧ (w.cell? ⟨g, 0, none⟩ = some (.bool false) ∧ w.cell? ⟨g, 1, none⟩ = some (.slice none 0 0) ∧ w.cell? ⟨g, 2, none⟩ = some (.bool false) ∧ w.cell? ⟨g, 3, none⟩ = some (.slice none 0 0) ∧ w.cell? ⟨g, 4, none⟩ = some (.slice none 0 0)) ∧ (w.frozen? ⟨g, 0, none⟩ = false ∧ w.frozen? ⟨g, 1, none⟩ = false ∧ w.frozen? ⟨g, 2, none⟩ = false ∧ w.frozen? ⟨g, 3, none⟩ = false ∧ w.frozen? ⟨g, 4, none⟩ = false)
theorem NewVarN.to {B g : Nat} {w w' : World} (h : NewVarN B g w) (hb : Below w.heap.size w w') : NewVarN B g w' :=
  by
  obtain ⟨h1, h2, ⟨c0, c1, c2, c3, c4⟩, f0, f1, f2, f3, f4⟩ := h
  exact ⟨h1, Nat.lt_of_lt_of_le h2 hb.size, ⟨keepc hb c0 h2, keepc hb c1 h2, keepc hb c2 h2, keepc hb c3 h2, keepc hb c4 h2⟩, keepf hb f0 h2, keepf hb f1 h2, keepf hb f2 h2, keepf hb f3 h2, keepf hb f4 h2⟩
theorem newvarN {V w1 : World} {T : TypeId} (h : Below (V.alloc (.cells #[.bool false, .slice none 0 0, .bool false, .slice none 0 0, .slice none 0 0] T)).heap.size (V.alloc (.cells #[.bool false, .slice none 0 0, .bool false, .slice none 0 0, .slice none 0 0] T)) w1) : NewVarN V.heap.size V.heap.size w1 :=
  NewVarN.to ⟨Nat.le_refl _, by simp, ⟨by go_simp, by go_simp, by go_simp, by go_simp, by go_simp⟩, by go_simp, by go_simp, by go_simp, by go_simp, by go_simp⟩ h
theorem newvarN1 {V w1 : World} {o : Obj} {T : TypeId} (h : Below ((V.alloc o).alloc (.cells #[.bool false, .slice none 0 0, .bool false, .slice none 0 0, .slice none 0 0] T)).heap.size ((V.alloc o).alloc (.cells #[.bool false, .slice none 0 0, .bool false, .slice none 0 0, .slice none 0 0] T)) w1) : NewVarN V.heap.size (V.heap.size + 1) w1 := by
  obtain ⟨a, b⟩ := newvarN h
  simp only [World.size_alloc] at a b
  exact ⟨by omega, b⟩
theorem num3_alloc {w : World} {A1 A2 A3 : Option Addr} {q : Cx} {o : Obj} (h : Num3 w A1 A2 A3 q) : Num3 (w.alloc o) A1 A2 A3 q := ⟨h.1.alloc _, h.2.1.alloc _, h.2.2.alloc _⟩
theorem varNum_set {W wn : World} {q : Cx} {g B : Nat} {A1 A2 A3 : Option Addr} (K : Below W.heap.size W wn) (n : NewVarN B g wn) (hg : W.heap.size ≤ g) (h : Num3 wn A1 A2 A3 q) :
    VarNum W q (.pointer (some ⟨g, 0, none⟩)) (((((wn.setCell ⟨g, 0, none⟩ (.bool (sn (na q)))).setCell ⟨g, 1, none⟩ (.slice A1 (ln (ab (na q))) (ln (ab (na q))))).setCell ⟨g, 2, none⟩ (.bool (sn (nb q)))).setCell ⟨g, 3, none⟩ (.slice A2 (ln (ab (nb q))) (ln (ab (nb q))))).setCell ⟨g, 4, none⟩ (.slice A3 (ln (un q)) (ln (un q)))) := by
  obtain ⟨_, hl, ⟨c0, c1, c2, c3, c4⟩, _⟩ := n
  obtain ⟨D1, D2, D3, e, h3, hb⟩ := retNum_fin (q := q) (A1 := A1) (A2 := A2) (A3 := A3) (Lib.hid K) h hg c0
  injection e with e
  simp only [Value.agg.injEq, Array.mk.injEq, List.cons.injEq, Value.slice.injEq, and_true, true_and] at e
  obtain ⟨rfl, rfl, rfl⟩ := e
  have o0 := cell_self (u := .bool (sn (na q))) c0
  refine ⟨g, A1, A2, A3, rfl, ⟨?_, ?_, ?_, ?_, ?_⟩, h3, hg, by simpa [World.setCell] using hl, hb⟩
  · exact keepo (keepo (keepo (keepo o0 (by omega)) (by omega)) (by omega)) (by omega)
  · exact keepo (keepo (keepo (cell_self (keepo c1 (by omega))) (by omega)) (by omega)) (by omega)
  · exact keepo (keepo (cell_self (keepo (keepo c2 (by omega)) (by omega))) (by omega)) (by omega)
  · exact keepo (cell_self (keepo (keepo (keepo c3 (by omega)) (by omega)) (by omega))) (by omega)
  · exact cell_self (keepo (keepo (keepo (keepo c4 (by omega)) (by omega)) (by omega)) (by omega))
theorem varNum_new {W wn : World} {q : Cx} {A1 A2 A3 : Option Addr} {T : TypeId} (K : Below W.heap.size W wn) (h : Num3 wn A1 A2 A3 q) :
    VarNum W q (.pointer (some ⟨wn.heap.size, 0, none⟩)) (wn.alloc (.cells #[.bool (sn (na q)), .slice A1 (ln (ab (na q))) (ln (ab (na q))), .bool (sn (nb q)), .slice A2 (ln (ab (nb q))) (ln (ab (nb q))), .slice A3 (ln (un q)) (ln (un q))] T)) :=
  ⟨wn.heap.size, A1, A2, A3, rfl, ⟨by go_simp, by go_simp, by go_simp, by go_simp, by go_simp⟩, ⟨h.1.alloc _, h.2.1.alloc _, h.2.2.alloc _⟩, K.size, by simp, K.alloc K.size _⟩
set_option maxHeartbeats 4000000 in
theorem div_zero (x y : Cx) (A1 A2 A3 B1 B2 B3 : Option Addr) (w : World) (hx : Num3 w A1 A2 A3 x) (hy : Num3 w B1 B2 B3 y) (hsx : sz 137438953472 x) (hsy : sz 137438953472 y) (h0 : y = Cx.zero) :
    Calls Tryz.prog 32 #[.agg #[.bool (sn (na x)), .slice A1 (ln (ab (na x))) (ln (ab (na x))), .bool (sn (nb x)), .slice A2 (ln (ab (nb x))) (ln (ab (nb x))), .slice A3 (ln (un x)) (ln (un x))], .agg #[.bool (sn (na y)), .slice B1 (ln (ab (na y))) (ln (ab (na y))), .bool (sn (nb y)), .slice B2 (ln (ab (nb y))) (ln (ab (nb y))), .slice B3 (ln (un y)) (ln (un y))]] w (RetNumE w 3 Cx.zero) := by
  obtain ⟨hx1, hx2, hx3⟩ := hx
  have HSX := Lib.hid hsx
  clear hsx
  obtain ⟨hy1, hy2, hy3⟩ := hy
  have HSY := Lib.hid hsy
  clear hsy
  have t : decide (y = Cx.zero) = true := decide_eq_true h0
  clear h0
  go_enter Tryz.func32, Tryz.ntmps32
  go_wp2_with fail
  obtain ⟨W, hW⟩ : ∃ W : World, W = (((w.alloc (.cells #[.bool (sn (na x)), .slice A1 (ln (ab (na x))) (ln (ab (na x))), .bool (sn (nb x)), .slice A2 (ln (ab (nb x))) (ln (ab (nb x))), .slice A3 (ln (un x)) (ln (un x))] 30)).alloc (.cells #[.bool (sn (na y)), .slice B1 (ln (ab (na y))) (ln (ab (na y))), .bool (sn (nb y)), .slice B2 (ln (ab (nb y))) (ln (ab (nb y))), .slice B3 (ln (un y)) (ln (un y))] 30)).alloc (.cells #[.bool false, .slice none 0 0, .bool false, .slice none 0 0, .slice none 0 0] 30)) := ⟨_, rfl⟩
  have s0_0 : W.cell? ⟨w.heap.size, 0, none⟩ = some (.bool (sn (na x))) := by subst hW; go_simp
  have s0_1 : W.cell? ⟨w.heap.size, 1, none⟩ = some (.slice A1 (ln (ab (na x))) (ln (ab (na x)))) := by subst hW; go_simp
  have s0_2 : W.cell? ⟨w.heap.size, 2, none⟩ = some (.bool (sn (nb x))) := by subst hW; go_simp
  have s0_3 : W.cell? ⟨w.heap.size, 3, none⟩ = some (.slice A2 (ln (ab (nb x))) (ln (ab (nb x)))) := by subst hW; go_simp
  have s0_4 : W.cell? ⟨w.heap.size, 4, none⟩ = some (.slice A3 (ln (un x)) (ln (un x))) := by subst hW; go_simp
  have s1_0 : W.cell? ⟨w.heap.size + 1, 0, none⟩ = some (.bool (sn (na y))) := by subst hW; go_simp
  have s1_1 : W.cell? ⟨w.heap.size + 1, 1, none⟩ = some (.slice B1 (ln (ab (na y))) (ln (ab (na y)))) := by subst hW; go_simp
  have s1_2 : W.cell? ⟨w.heap.size + 1, 2, none⟩ = some (.bool (sn (nb y))) := by subst hW; go_simp
  have s1_3 : W.cell? ⟨w.heap.size + 1, 3, none⟩ = some (.slice B2 (ln (ab (nb y))) (ln (ab (nb y)))) := by subst hW; go_simp
  have s1_4 : W.cell? ⟨w.heap.size + 1, 4, none⟩ = some (.slice B3 (ln (un y)) (ln (un y))) := by subst hW; go_simp
  have r0 : W.cell? ⟨w.heap.size + 1 + 1, 0, none⟩ = some (.bool false) := by subst hW; go_simp
  have f0 : W.frozen? ⟨w.heap.size + 1 + 1, 0, none⟩ = false := by subst hW; go_simp
  have r1 : W.cell? ⟨w.heap.size + 1 + 1, 1, none⟩ = some (.slice none 0 0) := by subst hW; go_simp
  have f1 : W.frozen? ⟨w.heap.size + 1 + 1, 1, none⟩ = false := by subst hW; go_simp
  have r2 : W.cell? ⟨w.heap.size + 1 + 1, 2, none⟩ = some (.bool false) := by subst hW; go_simp
  have f2 : W.frozen? ⟨w.heap.size + 1 + 1, 2, none⟩ = false := by subst hW; go_simp
  have r3 : W.cell? ⟨w.heap.size + 1 + 1, 3, none⟩ = some (.slice none 0 0) := by subst hW; go_simp
  have f3 : W.frozen? ⟨w.heap.size + 1 + 1, 3, none⟩ = false := by subst hW; go_simp
  have r4 : W.cell? ⟨w.heap.size + 1 + 1, 4, none⟩ = some (.slice none 0 0) := by subst hW; go_simp
  have f4 : W.frozen? ⟨w.heap.size + 1 + 1, 4, none⟩ = false := by subst hW; go_simp
  have HW : Below w.heap.size w W := by subst hW; exact ((((Below.refl w.heap.size w).alloc (Nat.le_refl _) _).alloc (by simp) _).alloc (by simp; omega) _)
  have l0 : w.heap.size < W.heap.size := by subst hW; simp <;> omega
  have l1 : w.heap.size + 1 < W.heap.size := by subst hW; simp <;> omega
  have l2 : w.heap.size + 1 + 1 < W.heap.size := by subst hW; simp
  have n0 : w.heap.size ≠ w.heap.size + 1 + 1 := by omega
  have n1 : w.heap.size + 1 ≠ w.heap.size + 1 + 1 := by omega
  replace hx1 := hx1.to HW
  replace hx2 := hx2.to HW
  replace hx3 := hx3.to HW
  replace hy1 := hy1.to HW
  replace hy2 := hy2.to HW
  replace hy3 := hy3.to HW
  rw [← hW]
  clear hW
  replace HW := Lib.hid HW
  refine (clear_any y B1 B2 B3 _ (by exact num3_mk hy1 hy2 hy3) (sz.mono HSY.out (by omega))).mono ?_
  rintro e w1 ⟨rfl, hb1⟩
  replace s0_0 := keepc hb1 s0_0 l0
  replace s0_1 := keepc hb1 s0_1 l0
  replace s0_2 := keepc hb1 s0_2 l0
  replace s0_3 := keepc hb1 s0_3 l0
  replace s0_4 := keepc hb1 s0_4 l0
  replace s1_0 := keepc hb1 s1_0 l1
  replace s1_1 := keepc hb1 s1_1 l1
  replace s1_2 := keepc hb1 s1_2 l1
  replace s1_3 := keepc hb1 s1_3 l1
  replace s1_4 := keepc hb1 s1_4 l1
  replace r0 := keepc hb1 r0 l2
  replace f0 := keepf hb1 f0 l2
  replace r1 := keepc hb1 r1 l2
  replace f1 := keepf hb1 f1 l2
  replace r2 := keepc hb1 r2 l2
  replace f2 := keepf hb1 f2 l2
  replace r3 := keepc hb1 r3 l2
  replace f3 := keepf hb1 f3 l2
  replace r4 := keepc hb1 r4 l2
  replace f4 := keepf hb1 f4 l2
  replace l0 := Nat.lt_of_lt_of_le l0 hb1.size
  replace l1 := Nat.lt_of_lt_of_le l1 hb1.size
  replace l2 := Nat.lt_of_lt_of_le l2 hb1.size
  replace hx1 := hx1.to hb1
  replace hx2 := hx2.to hb1
  replace hx3 := hx3.to hb1
  replace hy1 := hy1.to hb1
  replace hy2 := hy2.to hb1
  replace hy3 := hy3.to hb1
  replace HW := Lib.hid (hstep HW hb1)
  clear hb1
  go_wp2_with fail
  refine bodyPost_ret (v := .tuple #[.agg #[.bool false, .slice none 0 0, .bool false, .slice none 0 0, .slice none 0 0], .int .i64 3]) (by simp [results, Tryz.results32, go_sem, r0, r1, r2, r3, r4, f0, f1, f2, f3, f4]) rfl ?_
  obtain ⟨e1, e2, e3⟩ := zero_form
  have h := retNumE_fin (k := 3) (q := Cx.zero) (A1 := none) (A2 := none) (A3 := none) HW ⟨by rw [e1]; exact fun e => absurd rfl e, by rw [e2]; exact fun e => absurd rfl e, by rw [e3]; exact fun e => absurd rfl e⟩ (by omega) r0
  rw [e1, e2, e3, sn_zero, show ab 0 = 0 from rfl, ln_zero] at h
  exact h
set_option maxHeartbeats 4000000 in
theorem div_num0 (x y : Cx) (A1 A2 A3 B1 B2 B3 : Option Addr) (w : World) (hx : Num3 w A1 A2 A3 x) (hy : Num3 w B1 B2 B3 y) (hsx : sz 137438953472 x) (hsy : sz 137438953472 y) (h0 : y ≠ Cx.zero) :
    Calls Tryz.prog 32 #[.agg #[.bool (sn (na x)), .slice A1 (ln (ab (na x))) (ln (ab (na x))), .bool (sn (nb x)), .slice A2 (ln (ab (nb x))) (ln (ab (nb x))), .slice A3 (ln (un x)) (ln (un x))], .agg #[.bool (sn (na y)), .slice B1 (ln (ab (na y))) (ln (ab (na y))), .bool (sn (nb y)), .slice B2 (ln (ab (nb y))) (ln (ab (nb y))), .slice B3 (ln (un y)) (ln (un y))]] w (RetNumE w 0 (x.div y)) := by
  obtain ⟨hx1, hx2, hx3⟩ := hx
  have HSX := Lib.hid hsx
  clear hsx
  obtain ⟨hy1, hy2, hy3⟩ := hy
  have HSY := Lib.hid hsy
  clear hsy
  have t : decide (y = Cx.zero) = false := decide_eq_false h0
  have HN := Lib.hid (div_ne x h0)
  rw [← div_fr x h0]
  clear h0
  go_enter Tryz.func32, Tryz.ntmps32
  go_wp2_with fail
  obtain ⟨W, hW⟩ : ∃ W : World, W = (((w.alloc (.cells #[.bool (sn (na x)), .slice A1 (ln (ab (na x))) (ln (ab (na x))), .bool (sn (nb x)), .slice A2 (ln (ab (nb x))) (ln (ab (nb x))), .slice A3 (ln (un x)) (ln (un x))] 30)).alloc (.cells #[.bool (sn (na y)), .slice B1 (ln (ab (na y))) (ln (ab (na y))), .bool (sn (nb y)), .slice B2 (ln (ab (nb y))) (ln (ab (nb y))), .slice B3 (ln (un y)) (ln (un y))] 30)).alloc (.cells #[.bool false, .slice none 0 0, .bool false, .slice none 0 0, .slice none 0 0] 30)) := ⟨_, rfl⟩
  have s0_0 : W.cell? ⟨w.heap.size, 0, none⟩ = some (.bool (sn (na x))) := by subst hW; go_simp
  have s0_1 : W.cell? ⟨w.heap.size, 1, none⟩ = some (.slice A1 (ln (ab (na x))) (ln (ab (na x)))) := by subst hW; go_simp
  have s0_2 : W.cell? ⟨w.heap.size, 2, none⟩ = some (.bool (sn (nb x))) := by subst hW; go_simp
  have s0_3 : W.cell? ⟨w.heap.size, 3, none⟩ = some (.slice A2 (ln (ab (nb x))) (ln (ab (nb x)))) := by subst hW; go_simp
  have s0_4 : W.cell? ⟨w.heap.size, 4, none⟩ = some (.slice A3 (ln (un x)) (ln (un x))) := by subst hW; go_simp
  have s1_0 : W.cell? ⟨w.heap.size + 1, 0, none⟩ = some (.bool (sn (na y))) := by subst hW; go_simp
  have s1_1 : W.cell? ⟨w.heap.size + 1, 1, none⟩ = some (.slice B1 (ln (ab (na y))) (ln (ab (na y)))) := by subst hW; go_simp
  have s1_2 : W.cell? ⟨w.heap.size + 1, 2, none⟩ = some (.bool (sn (nb y))) := by subst hW; go_simp
  have s1_3 : W.cell? ⟨w.heap.size + 1, 3, none⟩ = some (.slice B2 (ln (ab (nb y))) (ln (ab (nb y)))) := by subst hW; go_simp
  have s1_4 : W.cell? ⟨w.heap.size + 1, 4, none⟩ = some (.slice B3 (ln (un y)) (ln (un y))) := by subst hW; go_simp
  have r0 : W.cell? ⟨w.heap.size + 1 + 1, 0, none⟩ = some (.bool false) := by subst hW; go_simp
  have f0 : W.frozen? ⟨w.heap.size + 1 + 1, 0, none⟩ = false := by subst hW; go_simp
  have r1 : W.cell? ⟨w.heap.size + 1 + 1, 1, none⟩ = some (.slice none 0 0) := by subst hW; go_simp
  have f1 : W.frozen? ⟨w.heap.size + 1 + 1, 1, none⟩ = false := by subst hW; go_simp
  have r2 : W.cell? ⟨w.heap.size + 1 + 1, 2, none⟩ = some (.bool false) := by subst hW; go_simp
  have f2 : W.frozen? ⟨w.heap.size + 1 + 1, 2, none⟩ = false := by subst hW; go_simp
  have r3 : W.cell? ⟨w.heap.size + 1 + 1, 3, none⟩ = some (.slice none 0 0) := by subst hW; go_simp
  have f3 : W.frozen? ⟨w.heap.size + 1 + 1, 3, none⟩ = false := by subst hW; go_simp
  have r4 : W.cell? ⟨w.heap.size + 1 + 1, 4, none⟩ = some (.slice none 0 0) := by subst hW; go_simp
  have f4 : W.frozen? ⟨w.heap.size + 1 + 1, 4, none⟩ = false := by subst hW; go_simp
  have HW : Below w.heap.size w W := by subst hW; exact ((((Below.refl w.heap.size w).alloc (Nat.le_refl _) _).alloc (by simp) _).alloc (by simp; omega) _)
  have l0 : w.heap.size < W.heap.size := by subst hW; simp <;> omega
  have l1 : w.heap.size + 1 < W.heap.size := by subst hW; simp <;> omega
  have l2 : w.heap.size + 1 + 1 < W.heap.size := by subst hW; simp
  have n0 : w.heap.size ≠ w.heap.size + 1 + 1 := by omega
  have n1 : w.heap.size + 1 ≠ w.heap.size + 1 + 1 := by omega
  replace hx1 := hx1.to HW
  replace hx2 := hx2.to HW
  replace hx3 := hx3.to HW
  replace hy1 := hy1.to HW
  replace hy2 := hy2.to HW
  replace hy3 := hy3.to HW
  rw [← hW]
  clear hW
  replace HW := Lib.hid HW
  refine (clear_any y B1 B2 B3 _ (by exact num3_mk hy1 hy2 hy3) (sz.mono HSY.out (by omega))).mono ?_
  rintro e w1 ⟨rfl, hb1⟩
  replace s0_0 := keepc hb1 s0_0 l0
  replace s0_1 := keepc hb1 s0_1 l0
  replace s0_2 := keepc hb1 s0_2 l0
  replace s0_3 := keepc hb1 s0_3 l0
  replace s0_4 := keepc hb1 s0_4 l0
  replace s1_0 := keepc hb1 s1_0 l1
  replace s1_1 := keepc hb1 s1_1 l1
  replace s1_2 := keepc hb1 s1_2 l1
  replace s1_3 := keepc hb1 s1_3 l1
  replace s1_4 := keepc hb1 s1_4 l1
  replace r0 := keepc hb1 r0 l2
  replace f0 := keepf hb1 f0 l2
  replace r1 := keepc hb1 r1 l2
  replace f1 := keepf hb1 f1 l2
  replace r2 := keepc hb1 r2 l2
  replace f2 := keepf hb1 f2 l2
  replace r3 := keepc hb1 r3 l2
  replace f3 := keepf hb1 f3 l2
  replace r4 := keepc hb1 r4 l2
  replace f4 := keepf hb1 f4 l2
  replace l0 := Nat.lt_of_lt_of_le l0 hb1.size
  replace l1 := Nat.lt_of_lt_of_le l1 hb1.size
  replace l2 := Nat.lt_of_lt_of_le l2 hb1.size
  replace hx1 := hx1.to hb1
  replace hx2 := hx2.to hb1
  replace hx3 := hx3.to hb1
  replace hy1 := hy1.to hb1
  replace hy2 := hy2.to hb1
  replace hy3 := hy3.to hb1
  replace HW := Lib.hid (hstep HW hb1)
  clear hb1
  go_upto_region 3 with fail
  go_cut [6] (fun p wx => VarWhole w1 (na y * na y + nb y * nb y) p wx)
  case first =>
    have gB : Hid (Below w1.heap.size w1 w1) := Lib.hid (Below.refl _ _)
    go_region_held3 (fun w' => w'.cell? ⟨w.heap.size + 1, 0, none⟩ = some (.bool (sn (na y))) ∧ w'.cell? ⟨w.heap.size + 1, 1, none⟩ = some (.slice B1 (ln (ab (na y))) (ln (ab (na y)))) ∧ w'.cell? ⟨w.heap.size + 1, 2, none⟩ = some (.bool (sn (nb y))) ∧ w'.cell? ⟨w.heap.size + 1, 3, none⟩ = some (.slice B2 (ln (ab (nb y))) (ln (ab (nb y))))) (first | with_reducible exact ⟨s1_0, s1_1, s1_2, s1_3⟩ | with_reducible exact ⟨(keepa s1_0 l1), (keepa s1_1 l1), (keepa s1_2 l1), (keepa s1_3 l1)⟩ | with_reducible exact ⟨(keeps (keeps s1_0 gn1) gn1), (keeps (keeps s1_1 gn1) gn1), (keeps (keeps s1_2 gn1) gn1), (keeps (keeps s1_3 gn1) gn1)⟩ | exact ⟨s1_0, s1_1, s1_2, s1_3⟩ | exact ⟨(keepa s1_0 l1), (keepa s1_1 l1), (keepa s1_2 l1), (keepa s1_3 l1)⟩) (first
      | (go_at_call_of 104 (Value.slice B1 (ln (ab (na y))) (ln (ab (na y)))); refine (times_any (na y) (na y) B1 B1 _ (by first | with_reducible exact hy1 | with_reducible exact hy1.alloc _ | exact hy1 | exact hy1.alloc _) (by first | with_reducible exact hy1 | with_reducible exact hy1.alloc _ | exact hy1 | exact hy1.alloc _) (by have := HSY.out; unfold sz at this; omega) (by have := HSY.out; unfold sz at this; omega)).mono ?_; rintro e w2 ⟨S2, rfl, h2, ha2⟩; have hb2 : Below w1.heap.size w1 w2 := (by first | with_reducible exact ha2 | with_reducible exact undrew ha2 | with_reducible exact unalloc ha2 | with_reducible exact undrewalloc ha2 | with_reducible exact undrew (unalloc ha2)); (try replace ga0 := keepc hb2 ga0 gl); (try replace ga1 := keepc hb2 ga1 gl); (try replace gf0 := keepf hb2 gf0 gl); (try replace gf1 := keepf hb2 gf1 gl); (try replace gl := Nat.lt_of_lt_of_le gl hb2.size); (try (have gx := (by first | with_reducible exact newvar ha2 | with_reducible exact newvard ha2 | with_reducible exact newvare ha2 : NewVar w1 w2); have ga0 := gx.1; have ga1 := gx.2.1; have gf0 := gx.2.2.1; have gf1 := gx.2.2.2.1; have gl := gx.2.2.2.2; have gge := gB.out.size; have gn0 := Nat.ne_of_lt l0; have gn1 := Nat.ne_of_lt l1; have gn2 := Nat.ne_of_lt l2; clear gx)); replace gB := Lib.hid (onto gB.out hb2); replace s0_0 := keepc hb2 s0_0 l0; replace s0_1 := keepc hb2 s0_1 l0; replace s0_2 := keepc hb2 s0_2 l0; replace s0_3 := keepc hb2 s0_3 l0; replace s0_4 := keepc hb2 s0_4 l0; replace s1_0 := keepc hb2 s1_0 l1; replace s1_1 := keepc hb2 s1_1 l1; replace s1_2 := keepc hb2 s1_2 l1; replace s1_3 := keepc hb2 s1_3 l1; replace s1_4 := keepc hb2 s1_4 l1; replace r0 := keepc hb2 r0 l2; replace f0 := keepf hb2 f0 l2; replace r1 := keepc hb2 r1 l2; replace f1 := keepf hb2 f1 l2; replace r2 := keepc hb2 r2 l2; replace f2 := keepf hb2 f2 l2; replace r3 := keepc hb2 r3 l2; replace f3 := keepf hb2 f3 l2; replace r4 := keepc hb2 r4 l2; replace f4 := keepf hb2 f4 l2; replace l0 := Nat.lt_of_lt_of_le l0 hb2.size; replace l1 := Nat.lt_of_lt_of_le l1 hb2.size; replace l2 := Nat.lt_of_lt_of_le l2 hb2.size; replace hx1 := hx1.to hb2; replace hx2 := hx2.to hb2; replace hx3 := hx3.to hb2; replace hy1 := hy1.to hb2; replace hy2 := hy2.to hb2; replace hy3 := hy3.to hb2; replace HW := Lib.hid (hstep HW hb2); clear hb2; clear ha2)
      | (go_at_call_of 104 (Value.slice B2 (ln (ab (nb y))) (ln (ab (nb y)))); refine (times_any (nb y) (nb y) B2 B2 _ (by first | with_reducible exact hy2 | with_reducible exact hy2.alloc _ | exact hy2 | exact hy2.alloc _) (by first | with_reducible exact hy2 | with_reducible exact hy2.alloc _ | exact hy2 | exact hy2.alloc _) (by have := HSY.out; unfold sz at this; omega) (by have := HSY.out; unfold sz at this; omega)).mono ?_; rintro e w3 ⟨S3, rfl, h3, ha3⟩; have hb3 : Below w2.heap.size w2 w3 := (by first | with_reducible exact ha3 | with_reducible exact undrew ha3 | with_reducible exact unalloc ha3 | with_reducible exact undrewalloc ha3 | with_reducible exact undrew (unalloc ha3)); (try replace ga0 := keepc hb3 ga0 gl); (try replace ga1 := keepc hb3 ga1 gl); (try replace gf0 := keepf hb3 gf0 gl); (try replace gf1 := keepf hb3 gf1 gl); (try replace gl := Nat.lt_of_lt_of_le gl hb3.size); (try (have gx := (by first | with_reducible exact newvar ha3 | with_reducible exact newvard ha3 | with_reducible exact newvare ha3 : NewVar w2 w3); have ga0 := gx.1; have ga1 := gx.2.1; have gf0 := gx.2.2.1; have gf1 := gx.2.2.2.1; have gl := gx.2.2.2.2; have gge := gB.out.size; have gn0 := Nat.ne_of_lt l0; have gn1 := Nat.ne_of_lt l1; have gn2 := Nat.ne_of_lt l2; clear gx)); replace gB := Lib.hid (onto gB.out hb3); replace s0_0 := keepc hb3 s0_0 l0; replace s0_1 := keepc hb3 s0_1 l0; replace s0_2 := keepc hb3 s0_2 l0; replace s0_3 := keepc hb3 s0_3 l0; replace s0_4 := keepc hb3 s0_4 l0; replace s1_0 := keepc hb3 s1_0 l1; replace s1_1 := keepc hb3 s1_1 l1; replace s1_2 := keepc hb3 s1_2 l1; replace s1_3 := keepc hb3 s1_3 l1; replace s1_4 := keepc hb3 s1_4 l1; replace r0 := keepc hb3 r0 l2; replace f0 := keepf hb3 f0 l2; replace r1 := keepc hb3 r1 l2; replace f1 := keepf hb3 f1 l2; replace r2 := keepc hb3 r2 l2; replace f2 := keepf hb3 f2 l2; replace r3 := keepc hb3 r3 l2; replace f3 := keepf hb3 f3 l2; replace r4 := keepc hb3 r4 l2; replace f4 := keepf hb3 f4 l2; replace l0 := Nat.lt_of_lt_of_le l0 hb3.size; replace l1 := Nat.lt_of_lt_of_le l1 hb3.size; replace l2 := Nat.lt_of_lt_of_le l2 hb3.size; replace hx1 := hx1.to hb3; replace hx2 := hx2.to hb3; replace hx3 := hx3.to hb3; replace hy1 := hy1.to hb3; replace hy2 := hy2.to hb3; replace hy3 := hy3.to hb3; replace h2 := h2.to hb3; replace HW := Lib.hid (hstep HW hb3); clear hb3; clear ha3)
      | (go_at_call 98; refine (plus_any (na y * na y) (nb y * nb y) S2 S3 _ (by first | with_reducible exact h2 | with_reducible exact h2.alloc _ | exact h2 | exact h2.alloc _) (by first | with_reducible exact h3 | with_reducible exact h3.alloc _ | exact h3 | exact h3.alloc _) (by have h := (ab_mul_ln HSY.out.1 HSY.out.1); omega) (by have h := (ab_mul_ln HSY.out.2.1 HSY.out.2.1); omega)).mono ?_; rintro e w4 ⟨S4, rfl, h4, ha4⟩; have hb4 : Below w3.heap.size w3 w4 := (by first | with_reducible exact ha4 | with_reducible exact undrew ha4 | with_reducible exact unalloc ha4 | with_reducible exact undrewalloc ha4 | with_reducible exact undrew (unalloc ha4)); (try replace ga0 := keepc hb4 ga0 gl); (try replace ga1 := keepc hb4 ga1 gl); (try replace gf0 := keepf hb4 gf0 gl); (try replace gf1 := keepf hb4 gf1 gl); (try replace gl := Nat.lt_of_lt_of_le gl hb4.size); (try (have gx := (by first | with_reducible exact newvar ha4 | with_reducible exact newvard ha4 | with_reducible exact newvare ha4 : NewVar w3 w4); have ga0 := gx.1; have ga1 := gx.2.1; have gf0 := gx.2.2.1; have gf1 := gx.2.2.2.1; have gl := gx.2.2.2.2; have gge := gB.out.size; have gn0 := Nat.ne_of_lt l0; have gn1 := Nat.ne_of_lt l1; have gn2 := Nat.ne_of_lt l2; clear gx)); replace gB := Lib.hid (onto gB.out hb4); replace s0_0 := keepc hb4 s0_0 l0; replace s0_1 := keepc hb4 s0_1 l0; replace s0_2 := keepc hb4 s0_2 l0; replace s0_3 := keepc hb4 s0_3 l0; replace s0_4 := keepc hb4 s0_4 l0; replace s1_0 := keepc hb4 s1_0 l1; replace s1_1 := keepc hb4 s1_1 l1; replace s1_2 := keepc hb4 s1_2 l1; replace s1_3 := keepc hb4 s1_3 l1; replace s1_4 := keepc hb4 s1_4 l1; replace r0 := keepc hb4 r0 l2; replace f0 := keepf hb4 f0 l2; replace r1 := keepc hb4 r1 l2; replace f1 := keepf hb4 f1 l2; replace r2 := keepc hb4 r2 l2; replace f2 := keepf hb4 f2 l2; replace r3 := keepc hb4 r3 l2; replace f3 := keepf hb4 f3 l2; replace r4 := keepc hb4 r4 l2; replace f4 := keepf hb4 f4 l2; replace l0 := Nat.lt_of_lt_of_le l0 hb4.size; replace l1 := Nat.lt_of_lt_of_le l1 hb4.size; replace l2 := Nat.lt_of_lt_of_le l2 hb4.size; replace hx1 := hx1.to hb4; replace hx2 := hx2.to hb4; replace hx3 := hx3.to hb4; replace hy1 := hy1.to hb4; replace hy2 := hy2.to hb4; replace hy3 := hy3.to hb4; replace h2 := h2.to hb4; replace h3 := h3.to hb4; replace HW := Lib.hid (hstep HW hb4); clear hb4; clear ha4))
    all_goals
      go_wp2_with fail
      go_meet
      first | exact varWhole_set gB.out ga0 ga1 gf0 gf1 h4 gge gl | exact varWhole_new gB.out h4
  case rest =>
  obtain ⟨g0, V0, hp0, t0_0, t0_1, u0_0, u0_1, hv0, hg0, l100, hb2⟩ := hcut
  subst hp0
  have n100 : g0 ≠ w.heap.size + 1 + 1 := by omega
  obtain ⟨w2, rfl⟩ : ∃ X : World, X = wc := ⟨_, rfl⟩
  replace s0_0 := keepc hb2 s0_0 l0
  replace s0_1 := keepc hb2 s0_1 l0
  replace s0_2 := keepc hb2 s0_2 l0
  replace s0_3 := keepc hb2 s0_3 l0
  replace s0_4 := keepc hb2 s0_4 l0
  replace s1_0 := keepc hb2 s1_0 l1
  replace s1_1 := keepc hb2 s1_1 l1
  replace s1_2 := keepc hb2 s1_2 l1
  replace s1_3 := keepc hb2 s1_3 l1
  replace s1_4 := keepc hb2 s1_4 l1
  replace r0 := keepc hb2 r0 l2
  replace f0 := keepf hb2 f0 l2
  replace r1 := keepc hb2 r1 l2
  replace f1 := keepf hb2 f1 l2
  replace r2 := keepc hb2 r2 l2
  replace f2 := keepf hb2 f2 l2
  replace r3 := keepc hb2 r3 l2
  replace f3 := keepf hb2 f3 l2
  replace r4 := keepc hb2 r4 l2
  replace f4 := keepf hb2 f4 l2
  replace l0 := Nat.lt_of_lt_of_le l0 hb2.size
  replace l1 := Nat.lt_of_lt_of_le l1 hb2.size
  replace l2 := Nat.lt_of_lt_of_le l2 hb2.size
  replace hx1 := hx1.to hb2
  replace hx2 := hx2.to hb2
  replace hx3 := hx3.to hb2
  replace hy1 := hy1.to hb2
  replace hy2 := hy2.to hb2
  replace hy3 := hy3.to hb2
  replace HW := Lib.hid (hstep HW hb2)
  clear hb2
  go_upto_region 4 with fail
  go_cut [7] (fun p wx => VarNum w2 (x.mul (fr (na y) (-nb y) 1)) p wx)
  case first =>
    have gB : Hid (Below w2.heap.size w2 w2) := Lib.hid (Below.refl _ _)
    go_region_held3 (fun w' => w'.cell? ⟨w.heap.size, 0, none⟩ = some (.bool (sn (na x))) ∧ w'.cell? ⟨w.heap.size, 1, none⟩ = some (.slice A1 (ln (ab (na x))) (ln (ab (na x)))) ∧ w'.cell? ⟨w.heap.size, 2, none⟩ = some (.bool (sn (nb x))) ∧ w'.cell? ⟨w.heap.size, 3, none⟩ = some (.slice A2 (ln (ab (nb x))) (ln (ab (nb x)))) ∧ w'.cell? ⟨w.heap.size, 4, none⟩ = some (.slice A3 (ln (un x)) (ln (un x))) ∧ w'.cell? ⟨w.heap.size + 1, 0, none⟩ = some (.bool (sn (na y))) ∧ w'.cell? ⟨w.heap.size + 1, 1, none⟩ = some (.slice B1 (ln (ab (na y))) (ln (ab (na y)))) ∧ w'.cell? ⟨w.heap.size + 1, 2, none⟩ = some (.bool (sn (nb y))) ∧ w'.cell? ⟨w.heap.size + 1, 3, none⟩ = some (.slice B2 (ln (ab (nb y))) (ln (ab (nb y))))) (first | with_reducible exact ⟨s0_0, s0_1, s0_2, s0_3, s0_4, s1_0, s1_1, s1_2, s1_3⟩ | with_reducible exact ⟨(keepa s0_0 l0), (keepa s0_1 l0), (keepa s0_2 l0), (keepa s0_3 l0), (keepa s0_4 l0), (keepa s1_0 l1), (keepa s1_1 l1), (keepa s1_2 l1), (keepa s1_3 l1)⟩ | with_reducible exact ⟨(keepa (keepa s0_0 l0) (lta l0)), (keepa (keepa s0_1 l0) (lta l0)), (keepa (keepa s0_2 l0) (lta l0)), (keepa (keepa s0_3 l0) (lta l0)), (keepa (keepa s0_4 l0) (lta l0)), (keepa (keepa s1_0 l1) (lta l1)), (keepa (keepa s1_1 l1) (lta l1)), (keepa (keepa s1_2 l1) (lta l1)), (keepa (keepa s1_3 l1) (lta l1))⟩ | with_reducible exact ⟨(keepd s0_0), (keepd s0_1), (keepd s0_2), (keepd s0_3), (keepd s0_4), (keepd s1_0), (keepd s1_1), (keepd s1_2), (keepd s1_3)⟩ | with_reducible exact ⟨(keepd (keepa s0_0 l0)), (keepd (keepa s0_1 l0)), (keepd (keepa s0_2 l0)), (keepd (keepa s0_3 l0)), (keepd (keepa s0_4 l0)), (keepd (keepa s1_0 l1)), (keepd (keepa s1_1 l1)), (keepd (keepa s1_2 l1)), (keepd (keepa s1_3 l1))⟩ | with_reducible exact ⟨(keepd (keepa (keepa s0_0 l0) (lta l0))), (keepd (keepa (keepa s0_1 l0) (lta l0))), (keepd (keepa (keepa s0_2 l0) (lta l0))), (keepd (keepa (keepa s0_3 l0) (lta l0))), (keepd (keepa (keepa s0_4 l0) (lta l0))), (keepd (keepa (keepa s1_0 l1) (lta l1))), (keepd (keepa (keepa s1_1 l1) (lta l1))), (keepd (keepa (keepa s1_2 l1) (lta l1))), (keepd (keepa (keepa s1_3 l1) (lta l1)))⟩ | (have _ := gx; with_reducible exact ⟨(keeps (keeps (keeps (keeps (keeps s0_0 gn0) gn0) gn0) gn0) gn0), (keeps (keeps (keeps (keeps (keeps s0_1 gn0) gn0) gn0) gn0) gn0), (keeps (keeps (keeps (keeps (keeps s0_2 gn0) gn0) gn0) gn0) gn0), (keeps (keeps (keeps (keeps (keeps s0_3 gn0) gn0) gn0) gn0) gn0), (keeps (keeps (keeps (keeps (keeps s0_4 gn0) gn0) gn0) gn0) gn0), (keeps (keeps (keeps (keeps (keeps s1_0 gn1) gn1) gn1) gn1) gn1), (keeps (keeps (keeps (keeps (keeps s1_1 gn1) gn1) gn1) gn1) gn1), (keeps (keeps (keeps (keeps (keeps s1_2 gn1) gn1) gn1) gn1) gn1), (keeps (keeps (keeps (keeps (keeps s1_3 gn1) gn1) gn1) gn1) gn1)⟩)) (first
      | (go_at_call 105; refine (minus_any (nb y) B2 _ (by first | with_reducible exact hy2 | with_reducible exact hy2.alloc _ | with_reducible exact (hy2.alloc _).alloc _ | exact hy2 | exact hy2.alloc _ | exact (hy2.alloc _).alloc _)).mono ?_; rintro e w3 ⟨S3, rfl, h3, ha⟩; have hb3 : Below w2.heap.size w2 w3 := (by first | with_reducible exact ha | with_reducible exact undrew ha | with_reducible exact unalloc ha | with_reducible exact undrewalloc ha | with_reducible exact unalloc (unalloc ha) | with_reducible exact unalloc (undrewalloc ha) | with_reducible exact undrew (unalloc ha) | with_reducible exact undrew (unalloc (unalloc ha))); (try replace q1 := q1.to hb3); (try replace gx := gx.to hb3); (try first | (with_reducible have q1 := newnat1 ha) | (with_reducible have q1 := newnat1 (undrew ha)) | (with_reducible have q1 := newnat ha) | (with_reducible have q1 := newnat (undrew ha)) | (with_reducible have q1 := newnat (unalloc ha)) | (with_reducible have q1 := newnat (undrewalloc ha))); (try ((first | (with_reducible have gx := newvarN1 ha) | (with_reducible have gx := newvarN1 (undrew ha)) | (with_reducible have gx := newvarN ha) | (with_reducible have gx := newvarN (undrew ha)) | (with_reducible have gx := newvarN (unalloc ha)) | (with_reducible have gx := newvarN (undrewalloc ha))); have gn0 := Nat.ne_of_lt (Nat.lt_of_lt_of_le l0 gx.1); have gn1 := Nat.ne_of_lt (Nat.lt_of_lt_of_le l1 gx.1); have gn2 := Nat.ne_of_lt (Nat.lt_of_lt_of_le l2 gx.1); have gn100 := Nat.ne_of_lt (Nat.lt_of_lt_of_le l100 gx.1); have gge := Nat.le_trans gB.out.size gx.1)); replace gB := Lib.hid (onto gB.out hb3); replace s0_0 := keepc hb3 s0_0 l0; replace s0_1 := keepc hb3 s0_1 l0; replace s0_2 := keepc hb3 s0_2 l0; replace s0_3 := keepc hb3 s0_3 l0; replace s0_4 := keepc hb3 s0_4 l0; replace s1_0 := keepc hb3 s1_0 l1; replace s1_1 := keepc hb3 s1_1 l1; replace s1_2 := keepc hb3 s1_2 l1; replace s1_3 := keepc hb3 s1_3 l1; replace s1_4 := keepc hb3 s1_4 l1; replace t0_0 := keepc hb3 t0_0 l100; replace t0_1 := keepc hb3 t0_1 l100; replace r0 := keepc hb3 r0 l2; replace f0 := keepf hb3 f0 l2; replace r1 := keepc hb3 r1 l2; replace f1 := keepf hb3 f1 l2; replace r2 := keepc hb3 r2 l2; replace f2 := keepf hb3 f2 l2; replace r3 := keepc hb3 r3 l2; replace f3 := keepf hb3 f3 l2; replace r4 := keepc hb3 r4 l2; replace f4 := keepf hb3 f4 l2; replace l0 := Nat.lt_of_lt_of_le l0 hb3.size; replace l1 := Nat.lt_of_lt_of_le l1 hb3.size; replace l2 := Nat.lt_of_lt_of_le l2 hb3.size; replace l100 := Nat.lt_of_lt_of_le l100 hb3.size; replace hx1 := hx1.to hb3; replace hx2 := hx2.to hb3; replace hx3 := hx3.to hb3; replace hy1 := hy1.to hb3; replace hy2 := hy2.to hb3; replace hy3 := hy3.to hb3; replace hv0 := hv0.to hb3; replace HW := Lib.hid (hstep HW hb3); clear hb3; clear ha)
      | (go_at_call 96; refine (over1_any (na y) (-nb y) B1 S3 _ _ (by first | with_reducible exact hy1 | with_reducible exact hy1.alloc _ | with_reducible exact (hy1.alloc _).alloc _ | exact hy1 | exact hy1.alloc _ | exact (hy1.alloc _).alloc _) (by first | with_reducible exact h3 | with_reducible exact h3.alloc _ | with_reducible exact (h3.alloc _).alloc _ | exact h3 | exact h3.alloc _ | exact (h3.alloc _).alloc _) (by first | with_reducible exact q1 | with_reducible exact q1.alloc _ | with_reducible exact nat1_new _ _ | with_reducible exact (nat1_new _ _).alloc _ | with_reducible exact nat1_new1 _ _ _) (by have := HSY.out; unfold sz at this; omega) (by rw [ab_neg]; have := HSY.out.2.1; omega)).mono ?_; rintro e w4 ⟨P1, P2, P3, rfl, h4, ha⟩; have hb4 : Below w3.heap.size w3 w4 := (by first | with_reducible exact ha | with_reducible exact undrew ha | with_reducible exact unalloc ha | with_reducible exact undrewalloc ha | with_reducible exact unalloc (unalloc ha) | with_reducible exact unalloc (undrewalloc ha) | with_reducible exact undrew (unalloc ha) | with_reducible exact undrew (unalloc (unalloc ha))); (try replace q1 := q1.to hb4); (try replace gx := gx.to hb4); (try first | (with_reducible have q1 := newnat1 ha) | (with_reducible have q1 := newnat1 (undrew ha)) | (with_reducible have q1 := newnat ha) | (with_reducible have q1 := newnat (undrew ha)) | (with_reducible have q1 := newnat (unalloc ha)) | (with_reducible have q1 := newnat (undrewalloc ha))); (try ((first | (with_reducible have gx := newvarN1 ha) | (with_reducible have gx := newvarN1 (undrew ha)) | (with_reducible have gx := newvarN ha) | (with_reducible have gx := newvarN (undrew ha)) | (with_reducible have gx := newvarN (unalloc ha)) | (with_reducible have gx := newvarN (undrewalloc ha))); have gn0 := Nat.ne_of_lt (Nat.lt_of_lt_of_le l0 gx.1); have gn1 := Nat.ne_of_lt (Nat.lt_of_lt_of_le l1 gx.1); have gn2 := Nat.ne_of_lt (Nat.lt_of_lt_of_le l2 gx.1); have gn100 := Nat.ne_of_lt (Nat.lt_of_lt_of_le l100 gx.1); have gge := Nat.le_trans gB.out.size gx.1)); replace gB := Lib.hid (onto gB.out hb4); replace s0_0 := keepc hb4 s0_0 l0; replace s0_1 := keepc hb4 s0_1 l0; replace s0_2 := keepc hb4 s0_2 l0; replace s0_3 := keepc hb4 s0_3 l0; replace s0_4 := keepc hb4 s0_4 l0; replace s1_0 := keepc hb4 s1_0 l1; replace s1_1 := keepc hb4 s1_1 l1; replace s1_2 := keepc hb4 s1_2 l1; replace s1_3 := keepc hb4 s1_3 l1; replace s1_4 := keepc hb4 s1_4 l1; replace t0_0 := keepc hb4 t0_0 l100; replace t0_1 := keepc hb4 t0_1 l100; replace r0 := keepc hb4 r0 l2; replace f0 := keepf hb4 f0 l2; replace r1 := keepc hb4 r1 l2; replace f1 := keepf hb4 f1 l2; replace r2 := keepc hb4 r2 l2; replace f2 := keepf hb4 f2 l2; replace r3 := keepc hb4 r3 l2; replace f3 := keepf hb4 f3 l2; replace r4 := keepc hb4 r4 l2; replace f4 := keepf hb4 f4 l2; replace l0 := Nat.lt_of_lt_of_le l0 hb4.size; replace l1 := Nat.lt_of_lt_of_le l1 hb4.size; replace l2 := Nat.lt_of_lt_of_le l2 hb4.size; replace l100 := Nat.lt_of_lt_of_le l100 hb4.size; replace hx1 := hx1.to hb4; replace hx2 := hx2.to hb4; replace hx3 := hx3.to hb4; replace hy1 := hy1.to hb4; replace hy2 := hy2.to hb4; replace hy3 := hy3.to hb4; replace hv0 := hv0.to hb4; replace h3 := h3.to hb4; replace HW := Lib.hid (hstep HW hb4); clear hb4; clear ha)
      | (go_at_call 30; refine (mul_num x (fr (na y) (-nb y) 1) A1 A2 A3 P1 P2 P3 _ (by first | with_reducible exact num3_mk hx1 hx2 hx3 | with_reducible exact num3_mk (hx1.alloc _) (hx2.alloc _) (hx3.alloc _) | with_reducible exact num3_mk ((hx1.alloc _).alloc _) ((hx2.alloc _).alloc _) ((hx3.alloc _).alloc _)) (by first | with_reducible exact h4 | with_reducible exact num3_alloc h4) HSX.out (fr_sz (by omega) HSY.out.1 (by rw [ab_neg]; exact HSY.out.2.1) (by rw [ln_one]; omega))).mono ?_; rintro e w5 ⟨Z1, Z2, Z3, rfl, z5, ha⟩; have hb5 : Below w4.heap.size w4 w5 := (by first | with_reducible exact ha | with_reducible exact undrew ha | with_reducible exact unalloc ha | with_reducible exact undrewalloc ha | with_reducible exact unalloc (unalloc ha) | with_reducible exact unalloc (undrewalloc ha) | with_reducible exact undrew (unalloc ha) | with_reducible exact undrew (unalloc (unalloc ha))); (try replace q1 := q1.to hb5); (try replace gx := gx.to hb5); (try first | (with_reducible have q1 := newnat1 ha) | (with_reducible have q1 := newnat1 (undrew ha)) | (with_reducible have q1 := newnat ha) | (with_reducible have q1 := newnat (undrew ha)) | (with_reducible have q1 := newnat (unalloc ha)) | (with_reducible have q1 := newnat (undrewalloc ha))); (try ((first | (with_reducible have gx := newvarN1 ha) | (with_reducible have gx := newvarN1 (undrew ha)) | (with_reducible have gx := newvarN ha) | (with_reducible have gx := newvarN (undrew ha)) | (with_reducible have gx := newvarN (unalloc ha)) | (with_reducible have gx := newvarN (undrewalloc ha))); have gn0 := Nat.ne_of_lt (Nat.lt_of_lt_of_le l0 gx.1); have gn1 := Nat.ne_of_lt (Nat.lt_of_lt_of_le l1 gx.1); have gn2 := Nat.ne_of_lt (Nat.lt_of_lt_of_le l2 gx.1); have gn100 := Nat.ne_of_lt (Nat.lt_of_lt_of_le l100 gx.1); have gge := Nat.le_trans gB.out.size gx.1)); replace gB := Lib.hid (onto gB.out hb5); replace s0_0 := keepc hb5 s0_0 l0; replace s0_1 := keepc hb5 s0_1 l0; replace s0_2 := keepc hb5 s0_2 l0; replace s0_3 := keepc hb5 s0_3 l0; replace s0_4 := keepc hb5 s0_4 l0; replace s1_0 := keepc hb5 s1_0 l1; replace s1_1 := keepc hb5 s1_1 l1; replace s1_2 := keepc hb5 s1_2 l1; replace s1_3 := keepc hb5 s1_3 l1; replace s1_4 := keepc hb5 s1_4 l1; replace t0_0 := keepc hb5 t0_0 l100; replace t0_1 := keepc hb5 t0_1 l100; replace r0 := keepc hb5 r0 l2; replace f0 := keepf hb5 f0 l2; replace r1 := keepc hb5 r1 l2; replace f1 := keepf hb5 f1 l2; replace r2 := keepc hb5 r2 l2; replace f2 := keepf hb5 f2 l2; replace r3 := keepc hb5 r3 l2; replace f3 := keepf hb5 f3 l2; replace r4 := keepc hb5 r4 l2; replace f4 := keepf hb5 f4 l2; replace l0 := Nat.lt_of_lt_of_le l0 hb5.size; replace l1 := Nat.lt_of_lt_of_le l1 hb5.size; replace l2 := Nat.lt_of_lt_of_le l2 hb5.size; replace l100 := Nat.lt_of_lt_of_le l100 hb5.size; replace hx1 := hx1.to hb5; replace hx2 := hx2.to hb5; replace hx3 := hx3.to hb5; replace hy1 := hy1.to hb5; replace hy2 := hy2.to hb5; replace hy3 := hy3.to hb5; replace hv0 := hv0.to hb5; replace h3 := h3.to hb5; replace h4 := h4.to hb5; replace HW := Lib.hid (hstep HW hb5); clear hb5; (try (have gy := gx; obtain ⟨_, _, ⟨ga0, ga1, ga2, ga3, ga4⟩, gf0, gf1, gf2, gf3, gf4⟩ := gy)); clear ha))
    all_goals
      go_wp2_with fail
      go_meet
      first | with_reducible exact varNum_set gB.out gx gge z5 | with_reducible exact varNum_new gB.out z5
  case rest =>
  obtain ⟨g1, V11, V12, V13, hp1, ⟨t1_0, t1_1, t1_2, t1_3, t1_4⟩, hv1, hg1, l101, hb3⟩ := hcut
  obtain ⟨hv11, hv12, hv13⟩ := hv1
  subst hp1
  have n101 : g1 ≠ w.heap.size + 1 + 1 := by omega
  obtain ⟨w3, rfl⟩ : ∃ X : World, X = wc := ⟨_, rfl⟩
  replace s0_0 := keepc hb3 s0_0 l0
  replace s0_1 := keepc hb3 s0_1 l0
  replace s0_2 := keepc hb3 s0_2 l0
  replace s0_3 := keepc hb3 s0_3 l0
  replace s0_4 := keepc hb3 s0_4 l0
  replace s1_0 := keepc hb3 s1_0 l1
  replace s1_1 := keepc hb3 s1_1 l1
  replace s1_2 := keepc hb3 s1_2 l1
  replace s1_3 := keepc hb3 s1_3 l1
  replace s1_4 := keepc hb3 s1_4 l1
  replace t0_0 := keepc hb3 t0_0 l100
  replace t0_1 := keepc hb3 t0_1 l100
  replace r0 := keepc hb3 r0 l2
  replace f0 := keepf hb3 f0 l2
  replace r1 := keepc hb3 r1 l2
  replace f1 := keepf hb3 f1 l2
  replace r2 := keepc hb3 r2 l2
  replace f2 := keepf hb3 f2 l2
  replace r3 := keepc hb3 r3 l2
  replace f3 := keepf hb3 f3 l2
  replace r4 := keepc hb3 r4 l2
  replace f4 := keepf hb3 f4 l2
  replace l0 := Nat.lt_of_lt_of_le l0 hb3.size
  replace l1 := Nat.lt_of_lt_of_le l1 hb3.size
  replace l2 := Nat.lt_of_lt_of_le l2 hb3.size
  replace l100 := Nat.lt_of_lt_of_le l100 hb3.size
  replace hx1 := hx1.to hb3
  replace hx2 := hx2.to hb3
  replace hx3 := hx3.to hb3
  replace hy1 := hy1.to hb3
  replace hy2 := hy2.to hb3
  replace hy3 := hy3.to hb3
  replace hv0 := hv0.to hb3
  replace HW := Lib.hid (hstep HW hb3)
  clear hb3
  have HSZ : Hid (sz 274877906945 (x.mul (fr (na y) (-nb y) 1))) := Lib.hid (sz_mul HSX.out (fr_sz (by omega) HSY.out.1 (by rw [ab_neg]; exact HSY.out.2.1) (by rw [ln_one]; omega)))
  go_wp2_with fail
  go_region_held3 (fun w' => w'.cell? ⟨w.heap.size + 1, 0, none⟩ = some (.bool (sn (na y))) ∧ w'.cell? ⟨w.heap.size + 1, 1, none⟩ = some (.slice B1 (ln (ab (na y))) (ln (ab (na y)))) ∧ w'.cell? ⟨w.heap.size + 1, 2, none⟩ = some (.bool (sn (nb y))) ∧ w'.cell? ⟨w.heap.size + 1, 3, none⟩ = some (.slice B2 (ln (ab (nb y))) (ln (ab (nb y)))) ∧ w'.cell? ⟨w.heap.size + 1, 4, none⟩ = some (.slice B3 (ln (un y)) (ln (un y))) ∧ w'.cell? ⟨g0, 1, none⟩ = some (.slice V0 (ln (ab (na y * na y + nb y * nb y))) (ln (ab (na y * na y + nb y * nb y)))) ∧ w'.cell? ⟨g1, 0, none⟩ = some (.bool (sn (na (x.mul (fr (na y) (-nb y) 1))))) ∧ w'.cell? ⟨g1, 1, none⟩ = some (.slice V11 (ln (ab (na (x.mul (fr (na y) (-nb y) 1))))) (ln (ab (na (x.mul (fr (na y) (-nb y) 1)))))) ∧ w'.cell? ⟨g1, 2, none⟩ = some (.bool (sn (nb (x.mul (fr (na y) (-nb y) 1))))) ∧ w'.cell? ⟨g1, 3, none⟩ = some (.slice V12 (ln (ab (nb (x.mul (fr (na y) (-nb y) 1))))) (ln (ab (nb (x.mul (fr (na y) (-nb y) 1)))))) ∧ w'.cell? ⟨g1, 4, none⟩ = some (.slice V13 (ln (un (x.mul (fr (na y) (-nb y) 1)))) (ln (un (x.mul (fr (na y) (-nb y) 1)))))) (first | with_reducible exact ⟨s1_0, s1_1, s1_2, s1_3, s1_4, t0_1, t1_0, t1_1, t1_2, t1_3, t1_4⟩ | with_reducible exact ⟨(keeps (keeps (keeps (keeps (keeps s1_0 n1) n1) n1) n1) n1), (keeps (keeps (keeps (keeps (keeps s1_1 n1) n1) n1) n1) n1), (keeps (keeps (keeps (keeps (keeps s1_2 n1) n1) n1) n1) n1), (keeps (keeps (keeps (keeps (keeps s1_3 n1) n1) n1) n1) n1), (keeps (keeps (keeps (keeps (keeps s1_4 n1) n1) n1) n1) n1), (keeps (keeps (keeps (keeps (keeps t0_1 n100) n100) n100) n100) n100), (keeps (keeps (keeps (keeps (keeps t1_0 n101) n101) n101) n101) n101), (keeps (keeps (keeps (keeps (keeps t1_1 n101) n101) n101) n101) n101), (keeps (keeps (keeps (keeps (keeps t1_2 n101) n101) n101) n101) n101), (keeps (keeps (keeps (keeps (keeps t1_3 n101) n101) n101) n101) n101), (keeps (keeps (keeps (keeps (keeps t1_4 n101) n101) n101) n101) n101)⟩ | exact ⟨s1_0, s1_1, s1_2, s1_3, s1_4, t0_1, t1_0, t1_1, t1_2, t1_3, t1_4⟩) (first
    | (have _ := d1; go_at_call_of 89 (Value.agg #[.bool (sn (na y)), .slice B1 (ln (ab (na y))) (ln (ab (na y))), .bool (sn (nb y)), .slice B2 (ln (ab (nb y))) (ln (ab (nb y))), .slice B3 (ln (un y)) (ln (un y))]); refine (den_any y B1 B2 B3 _ (by exact num3_mk hy1 hy2 hy3)).mono ?_; rintro e w6 ⟨D3, rfl, d3, hb6⟩; replace s0_0 := keepc hb6 s0_0 l0; replace s0_1 := keepc hb6 s0_1 l0; replace s0_2 := keepc hb6 s0_2 l0; replace s0_3 := keepc hb6 s0_3 l0; replace s0_4 := keepc hb6 s0_4 l0; replace s1_0 := keepc hb6 s1_0 l1; replace s1_1 := keepc hb6 s1_1 l1; replace s1_2 := keepc hb6 s1_2 l1; replace s1_3 := keepc hb6 s1_3 l1; replace s1_4 := keepc hb6 s1_4 l1; replace t0_0 := keepc hb6 t0_0 l100; replace t0_1 := keepc hb6 t0_1 l100; replace t1_0 := keepc hb6 t1_0 l101; replace t1_1 := keepc hb6 t1_1 l101; replace t1_2 := keepc hb6 t1_2 l101; replace t1_3 := keepc hb6 t1_3 l101; replace t1_4 := keepc hb6 t1_4 l101; replace r0 := keepc hb6 r0 l2; replace f0 := keepf hb6 f0 l2; replace r1 := keepc hb6 r1 l2; replace f1 := keepf hb6 f1 l2; replace r2 := keepc hb6 r2 l2; replace f2 := keepf hb6 f2 l2; replace r3 := keepc hb6 r3 l2; replace f3 := keepf hb6 f3 l2; replace r4 := keepc hb6 r4 l2; replace f4 := keepf hb6 f4 l2; replace l0 := Nat.lt_of_lt_of_le l0 hb6.size; replace l1 := Nat.lt_of_lt_of_le l1 hb6.size; replace l2 := Nat.lt_of_lt_of_le l2 hb6.size; replace l100 := Nat.lt_of_lt_of_le l100 hb6.size; replace l101 := Nat.lt_of_lt_of_le l101 hb6.size; replace hx1 := hx1.to hb6; replace hx2 := hx2.to hb6; replace hx3 := hx3.to hb6; replace hy1 := hy1.to hb6; replace hy2 := hy2.to hb6; replace hy3 := hy3.to hb6; replace hv0 := hv0.to hb6; replace hv11 := hv11.to hb6; replace hv12 := hv12.to hb6; replace hv13 := hv13.to hb6; replace d1 := d1.to hb6; replace d2 := d2.to hb6; replace HW := Lib.hid (hstep HW hb6); clear hb6)
    | (go_at_call_of 89 (Value.agg #[.bool (sn (na y)), .slice B1 (ln (ab (na y))) (ln (ab (na y))), .bool (sn (nb y)), .slice B2 (ln (ab (nb y))) (ln (ab (nb y))), .slice B3 (ln (un y)) (ln (un y))]); refine (den_any y B1 B2 B3 _ (by exact num3_mk hy1 hy2 hy3)).mono ?_; rintro e w4 ⟨D1, rfl, d1, hb4⟩; have hb4 := undrew hb4; replace s0_0 := keepc hb4 s0_0 l0; replace s0_1 := keepc hb4 s0_1 l0; replace s0_2 := keepc hb4 s0_2 l0; replace s0_3 := keepc hb4 s0_3 l0; replace s0_4 := keepc hb4 s0_4 l0; replace s1_0 := keepc hb4 s1_0 l1; replace s1_1 := keepc hb4 s1_1 l1; replace s1_2 := keepc hb4 s1_2 l1; replace s1_3 := keepc hb4 s1_3 l1; replace s1_4 := keepc hb4 s1_4 l1; replace t0_0 := keepc hb4 t0_0 l100; replace t0_1 := keepc hb4 t0_1 l100; replace t1_0 := keepc hb4 t1_0 l101; replace t1_1 := keepc hb4 t1_1 l101; replace t1_2 := keepc hb4 t1_2 l101; replace t1_3 := keepc hb4 t1_3 l101; replace t1_4 := keepc hb4 t1_4 l101; replace r0 := keepc hb4 r0 l2; replace f0 := keepf hb4 f0 l2; replace r1 := keepc hb4 r1 l2; replace f1 := keepf hb4 f1 l2; replace r2 := keepc hb4 r2 l2; replace f2 := keepf hb4 f2 l2; replace r3 := keepc hb4 r3 l2; replace f3 := keepf hb4 f3 l2; replace r4 := keepc hb4 r4 l2; replace f4 := keepf hb4 f4 l2; replace l0 := Nat.lt_of_lt_of_le l0 hb4.size; replace l1 := Nat.lt_of_lt_of_le l1 hb4.size; replace l2 := Nat.lt_of_lt_of_le l2 hb4.size; replace l100 := Nat.lt_of_lt_of_le l100 hb4.size; replace l101 := Nat.lt_of_lt_of_le l101 hb4.size; replace hx1 := hx1.to hb4; replace hx2 := hx2.to hb4; replace hx3 := hx3.to hb4; replace hy1 := hy1.to hb4; replace hy2 := hy2.to hb4; replace hy3 := hy3.to hb4; replace hv0 := hv0.to hb4; replace hv11 := hv11.to hb4; replace hv12 := hv12.to hb4; replace hv13 := hv13.to hb4; replace HW := Lib.hid (hstep HW hb4); clear hb4)
    | (go_at_call_of 97 (Value.slice V11 (ln (ab (na (x.mul (fr (na y) (-nb y) 1))))) (ln (ab (na (x.mul (fr (na y) (-nb y) 1)))))); refine (scaled_any (na (x.mul (fr (na y) (-nb y) 1))) (nd y) V11 D1 _ (by exact hv11) (by exact d1) (by have := HSZ.out; unfold sz at this; omega) (by have := HSY.out; unfold sz at this; omega)).mono ?_; rintro e w5 ⟨E2, rfl, d2, hb5⟩; replace s0_0 := keepc hb5 s0_0 l0; replace s0_1 := keepc hb5 s0_1 l0; replace s0_2 := keepc hb5 s0_2 l0; replace s0_3 := keepc hb5 s0_3 l0; replace s0_4 := keepc hb5 s0_4 l0; replace s1_0 := keepc hb5 s1_0 l1; replace s1_1 := keepc hb5 s1_1 l1; replace s1_2 := keepc hb5 s1_2 l1; replace s1_3 := keepc hb5 s1_3 l1; replace s1_4 := keepc hb5 s1_4 l1; replace t0_0 := keepc hb5 t0_0 l100; replace t0_1 := keepc hb5 t0_1 l100; replace t1_0 := keepc hb5 t1_0 l101; replace t1_1 := keepc hb5 t1_1 l101; replace t1_2 := keepc hb5 t1_2 l101; replace t1_3 := keepc hb5 t1_3 l101; replace t1_4 := keepc hb5 t1_4 l101; replace r0 := keepc hb5 r0 l2; replace f0 := keepf hb5 f0 l2; replace r1 := keepc hb5 r1 l2; replace f1 := keepf hb5 f1 l2; replace r2 := keepc hb5 r2 l2; replace f2 := keepf hb5 f2 l2; replace r3 := keepc hb5 r3 l2; replace f3 := keepf hb5 f3 l2; replace r4 := keepc hb5 r4 l2; replace f4 := keepf hb5 f4 l2; replace l0 := Nat.lt_of_lt_of_le l0 hb5.size; replace l1 := Nat.lt_of_lt_of_le l1 hb5.size; replace l2 := Nat.lt_of_lt_of_le l2 hb5.size; replace l100 := Nat.lt_of_lt_of_le l100 hb5.size; replace l101 := Nat.lt_of_lt_of_le l101 hb5.size; replace hx1 := hx1.to hb5; replace hx2 := hx2.to hb5; replace hx3 := hx3.to hb5; replace hy1 := hy1.to hb5; replace hy2 := hy2.to hb5; replace hy3 := hy3.to hb5; replace hv0 := hv0.to hb5; replace hv11 := hv11.to hb5; replace hv12 := hv12.to hb5; replace hv13 := hv13.to hb5; replace d1 := d1.to hb5; replace HW := Lib.hid (hstep HW hb5); clear hb5)
    | (go_at_call_of 97 (Value.slice V12 (ln (ab (nb (x.mul (fr (na y) (-nb y) 1))))) (ln (ab (nb (x.mul (fr (na y) (-nb y) 1)))))); refine (scaled_any (nb (x.mul (fr (na y) (-nb y) 1))) (nd y) V12 D3 _ (by exact hv12) (by exact d3) (by have := HSZ.out; unfold sz at this; omega) (by have := HSY.out; unfold sz at this; omega)).mono ?_; rintro e w7 ⟨E4, rfl, d4, hb7⟩; replace s0_0 := keepc hb7 s0_0 l0; replace s0_1 := keepc hb7 s0_1 l0; replace s0_2 := keepc hb7 s0_2 l0; replace s0_3 := keepc hb7 s0_3 l0; replace s0_4 := keepc hb7 s0_4 l0; replace s1_0 := keepc hb7 s1_0 l1; replace s1_1 := keepc hb7 s1_1 l1; replace s1_2 := keepc hb7 s1_2 l1; replace s1_3 := keepc hb7 s1_3 l1; replace s1_4 := keepc hb7 s1_4 l1; replace t0_0 := keepc hb7 t0_0 l100; replace t0_1 := keepc hb7 t0_1 l100; replace t1_0 := keepc hb7 t1_0 l101; replace t1_1 := keepc hb7 t1_1 l101; replace t1_2 := keepc hb7 t1_2 l101; replace t1_3 := keepc hb7 t1_3 l101; replace t1_4 := keepc hb7 t1_4 l101; replace r0 := keepc hb7 r0 l2; replace f0 := keepf hb7 f0 l2; replace r1 := keepc hb7 r1 l2; replace f1 := keepf hb7 f1 l2; replace r2 := keepc hb7 r2 l2; replace f2 := keepf hb7 f2 l2; replace r3 := keepc hb7 r3 l2; replace f3 := keepf hb7 f3 l2; replace r4 := keepc hb7 r4 l2; replace f4 := keepf hb7 f4 l2; replace l0 := Nat.lt_of_lt_of_le l0 hb7.size; replace l1 := Nat.lt_of_lt_of_le l1 hb7.size; replace l2 := Nat.lt_of_lt_of_le l2 hb7.size; replace l100 := Nat.lt_of_lt_of_le l100 hb7.size; replace l101 := Nat.lt_of_lt_of_le l101 hb7.size; replace hx1 := hx1.to hb7; replace hx2 := hx2.to hb7; replace hx3 := hx3.to hb7; replace hy1 := hy1.to hb7; replace hy2 := hy2.to hb7; replace hy3 := hy3.to hb7; replace hv0 := hv0.to hb7; replace hv11 := hv11.to hb7; replace hv12 := hv12.to hb7; replace hv13 := hv13.to hb7; replace d1 := d1.to hb7; replace d2 := d2.to hb7; replace d3 := d3.to hb7; replace HW := Lib.hid (hstep HW hb7); clear hb7)
    | (go_at_call_of 89 (Value.agg #[.bool (sn (na (x.mul (fr (na y) (-nb y) 1)))), .slice V11 (ln (ab (na (x.mul (fr (na y) (-nb y) 1))))) (ln (ab (na (x.mul (fr (na y) (-nb y) 1))))), .bool (sn (nb (x.mul (fr (na y) (-nb y) 1)))), .slice V12 (ln (ab (nb (x.mul (fr (na y) (-nb y) 1))))) (ln (ab (nb (x.mul (fr (na y) (-nb y) 1))))), .slice V13 (ln (un (x.mul (fr (na y) (-nb y) 1)))) (ln (un (x.mul (fr (na y) (-nb y) 1))))]); refine (den_any (x.mul (fr (na y) (-nb y) 1)) V11 V12 V13 _ (by exact num3_mk hv11 hv12 hv13)).mono ?_; rintro e w8 ⟨D5, rfl, d5, hb8⟩; replace s0_0 := keepc hb8 s0_0 l0; replace s0_1 := keepc hb8 s0_1 l0; replace s0_2 := keepc hb8 s0_2 l0; replace s0_3 := keepc hb8 s0_3 l0; replace s0_4 := keepc hb8 s0_4 l0; replace s1_0 := keepc hb8 s1_0 l1; replace s1_1 := keepc hb8 s1_1 l1; replace s1_2 := keepc hb8 s1_2 l1; replace s1_3 := keepc hb8 s1_3 l1; replace s1_4 := keepc hb8 s1_4 l1; replace t0_0 := keepc hb8 t0_0 l100; replace t0_1 := keepc hb8 t0_1 l100; replace t1_0 := keepc hb8 t1_0 l101; replace t1_1 := keepc hb8 t1_1 l101; replace t1_2 := keepc hb8 t1_2 l101; replace t1_3 := keepc hb8 t1_3 l101; replace t1_4 := keepc hb8 t1_4 l101; replace r0 := keepc hb8 r0 l2; replace f0 := keepf hb8 f0 l2; replace r1 := keepc hb8 r1 l2; replace f1 := keepf hb8 f1 l2; replace r2 := keepc hb8 r2 l2; replace f2 := keepf hb8 f2 l2; replace r3 := keepc hb8 r3 l2; replace f3 := keepf hb8 f3 l2; replace r4 := keepc hb8 r4 l2; replace f4 := keepf hb8 f4 l2; replace l0 := Nat.lt_of_lt_of_le l0 hb8.size; replace l1 := Nat.lt_of_lt_of_le l1 hb8.size; replace l2 := Nat.lt_of_lt_of_le l2 hb8.size; replace l100 := Nat.lt_of_lt_of_le l100 hb8.size; replace l101 := Nat.lt_of_lt_of_le l101 hb8.size; replace hx1 := hx1.to hb8; replace hx2 := hx2.to hb8; replace hx3 := hx3.to hb8; replace hy1 := hy1.to hb8; replace hy2 := hy2.to hb8; replace hy3 := hy3.to hb8; replace hv0 := hv0.to hb8; replace hv11 := hv11.to hb8; replace hv12 := hv12.to hb8; replace hv13 := hv13.to hb8; replace d1 := d1.to hb8; replace d2 := d2.to hb8; replace d3 := d3.to hb8; replace d4 := d4.to hb8; replace HW := Lib.hid (hstep HW hb8); clear hb8)
    | (go_at_call 99; refine (mul_any (nd (x.mul (fr (na y) (-nb y) 1))) (ab (na y * na y + nb y * nb y)) D5 V0 _ (by exact d5) (by exact hv0) (by have := HSZ.out; unfold sz at this; omega) (by have h := (ab_add_ln (K := 274877906944) (ab_mul_ln HSY.out.1 HSY.out.1) (ab_mul_ln HSY.out.2.1 HSY.out.2.1)); have h3 := HSX.out; have h4 := HSY.out; have h5 := HSZ.out; unfold sz at h3 h4 h5; omega)).mono ?_; rintro e w9 ⟨E6, rfl, d6, hb9⟩; replace s0_0 := keepc hb9 s0_0 l0; replace s0_1 := keepc hb9 s0_1 l0; replace s0_2 := keepc hb9 s0_2 l0; replace s0_3 := keepc hb9 s0_3 l0; replace s0_4 := keepc hb9 s0_4 l0; replace s1_0 := keepc hb9 s1_0 l1; replace s1_1 := keepc hb9 s1_1 l1; replace s1_2 := keepc hb9 s1_2 l1; replace s1_3 := keepc hb9 s1_3 l1; replace s1_4 := keepc hb9 s1_4 l1; replace t0_0 := keepc hb9 t0_0 l100; replace t0_1 := keepc hb9 t0_1 l100; replace t1_0 := keepc hb9 t1_0 l101; replace t1_1 := keepc hb9 t1_1 l101; replace t1_2 := keepc hb9 t1_2 l101; replace t1_3 := keepc hb9 t1_3 l101; replace t1_4 := keepc hb9 t1_4 l101; replace r0 := keepc hb9 r0 l2; replace f0 := keepf hb9 f0 l2; replace r1 := keepc hb9 r1 l2; replace f1 := keepf hb9 f1 l2; replace r2 := keepc hb9 r2 l2; replace f2 := keepf hb9 f2 l2; replace r3 := keepc hb9 r3 l2; replace f3 := keepf hb9 f3 l2; replace r4 := keepc hb9 r4 l2; replace f4 := keepf hb9 f4 l2; replace l0 := Nat.lt_of_lt_of_le l0 hb9.size; replace l1 := Nat.lt_of_lt_of_le l1 hb9.size; replace l2 := Nat.lt_of_lt_of_le l2 hb9.size; replace l100 := Nat.lt_of_lt_of_le l100 hb9.size; replace l101 := Nat.lt_of_lt_of_le l101 hb9.size; replace hx1 := hx1.to hb9; replace hx2 := hx2.to hb9; replace hx3 := hx3.to hb9; replace hy1 := hy1.to hb9; replace hy2 := hy2.to hb9; replace hy3 := hy3.to hb9; replace hv0 := hv0.to hb9; replace hv11 := hv11.to hb9; replace hv12 := hv12.to hb9; replace hv13 := hv13.to hb9; replace d1 := d1.to hb9; replace d2 := d2.to hb9; replace d3 := d3.to hb9; replace d4 := d4.to hb9; replace d5 := d5.to hb9; replace HW := Lib.hid (hstep HW hb9); clear hb9)
    | (go_at_call 96; refine (over_any (na (x.mul (fr (na y) (-nb y) 1)) * (nd y : Int)) (nb (x.mul (fr (na y) (-nb y) 1)) * (nd y : Int)) (nd (x.mul (fr (na y) (-nb y) 1)) * ab (na y * na y + nb y * nb y)) E2 E4 E6 _ (by exact d2) (by exact d4) (by exact d6) (by have h := (ab_mul_ln HSZ.out.1 (ab_nat_ln HSY.out.2.2)); have h3 := HSX.out; have h4 := HSY.out; have h5 := HSZ.out; unfold sz at h3 h4 h5; omega) (by have h := (ab_mul_ln HSZ.out.2.1 (ab_nat_ln HSY.out.2.2)); have h3 := HSX.out; have h4 := HSY.out; have h5 := HSZ.out; unfold sz at h3 h4 h5; omega) (by have h := (nat_mul_ln HSZ.out.2.2 (ab_add_ln (K := 274877906944) (ab_mul_ln HSY.out.1 HSY.out.1) (ab_mul_ln HSY.out.2.1 HSY.out.2.1))); have h3 := HSX.out; have h4 := HSY.out; have h5 := HSZ.out; unfold sz at h3 h4 h5; omega) HN.out).mono ?_; rintro e w10 ⟨Z1, Z2, Z3, rfl, d7, hb10⟩; replace s0_0 := keepc hb10 s0_0 l0; replace s0_1 := keepc hb10 s0_1 l0; replace s0_2 := keepc hb10 s0_2 l0; replace s0_3 := keepc hb10 s0_3 l0; replace s0_4 := keepc hb10 s0_4 l0; replace s1_0 := keepc hb10 s1_0 l1; replace s1_1 := keepc hb10 s1_1 l1; replace s1_2 := keepc hb10 s1_2 l1; replace s1_3 := keepc hb10 s1_3 l1; replace s1_4 := keepc hb10 s1_4 l1; replace t0_0 := keepc hb10 t0_0 l100; replace t0_1 := keepc hb10 t0_1 l100; replace t1_0 := keepc hb10 t1_0 l101; replace t1_1 := keepc hb10 t1_1 l101; replace t1_2 := keepc hb10 t1_2 l101; replace t1_3 := keepc hb10 t1_3 l101; replace t1_4 := keepc hb10 t1_4 l101; replace r0 := keepc hb10 r0 l2; replace f0 := keepf hb10 f0 l2; replace r1 := keepc hb10 r1 l2; replace f1 := keepf hb10 f1 l2; replace r2 := keepc hb10 r2 l2; replace f2 := keepf hb10 f2 l2; replace r3 := keepc hb10 r3 l2; replace f3 := keepf hb10 f3 l2; replace r4 := keepc hb10 r4 l2; replace f4 := keepf hb10 f4 l2; replace l0 := Nat.lt_of_lt_of_le l0 hb10.size; replace l1 := Nat.lt_of_lt_of_le l1 hb10.size; replace l2 := Nat.lt_of_lt_of_le l2 hb10.size; replace l100 := Nat.lt_of_lt_of_le l100 hb10.size; replace l101 := Nat.lt_of_lt_of_le l101 hb10.size; replace hx1 := hx1.to hb10; replace hx2 := hx2.to hb10; replace hx3 := hx3.to hb10; replace hy1 := hy1.to hb10; replace hy2 := hy2.to hb10; replace hy3 := hy3.to hb10; replace hv0 := hv0.to hb10; replace hv11 := hv11.to hb10; replace hv12 := hv12.to hb10; replace hv13 := hv13.to hb10; replace d1 := d1.to hb10; replace d2 := d2.to hb10; replace d3 := d3.to hb10; replace d4 := d4.to hb10; replace d5 := d5.to hb10; replace d6 := d6.to hb10; replace HW := Lib.hid (hstep HW hb10); clear hb10))
  go_wp2_with fail
  exact bodyPost_ret (v := .tuple #[.agg #[.bool (sn (na (fr (na (x.mul (fr (na y) (-nb y) 1)) * (nd y : Int)) (nb (x.mul (fr (na y) (-nb y) 1)) * (nd y : Int)) (nd (x.mul (fr (na y) (-nb y) 1)) * ab (na y * na y + nb y * nb y))))), .slice Z1 (ln (ab (na (fr (na (x.mul (fr (na y) (-nb y) 1)) * (nd y : Int)) (nb (x.mul (fr (na y) (-nb y) 1)) * (nd y : Int)) (nd (x.mul (fr (na y) (-nb y) 1)) * ab (na y * na y + nb y * nb y)))))) (ln (ab (na (fr (na (x.mul (fr (na y) (-nb y) 1)) * (nd y : Int)) (nb (x.mul (fr (na y) (-nb y) 1)) * (nd y : Int)) (nd (x.mul (fr (na y) (-nb y) 1)) * ab (na y * na y + nb y * nb y)))))), .bool (sn (nb (fr (na (x.mul (fr (na y) (-nb y) 1)) * (nd y : Int)) (nb (x.mul (fr (na y) (-nb y) 1)) * (nd y : Int)) (nd (x.mul (fr (na y) (-nb y) 1)) * ab (na y * na y + nb y * nb y))))), .slice Z2 (ln (ab (nb (fr (na (x.mul (fr (na y) (-nb y) 1)) * (nd y : Int)) (nb (x.mul (fr (na y) (-nb y) 1)) * (nd y : Int)) (nd (x.mul (fr (na y) (-nb y) 1)) * ab (na y * na y + nb y * nb y)))))) (ln (ab (nb (fr (na (x.mul (fr (na y) (-nb y) 1)) * (nd y : Int)) (nb (x.mul (fr (na y) (-nb y) 1)) * (nd y : Int)) (nd (x.mul (fr (na y) (-nb y) 1)) * ab (na y * na y + nb y * nb y)))))), .slice Z3 (ln (un (fr (na (x.mul (fr (na y) (-nb y) 1)) * (nd y : Int)) (nb (x.mul (fr (na y) (-nb y) 1)) * (nd y : Int)) (nd (x.mul (fr (na y) (-nb y) 1)) * ab (na y * na y + nb y * nb y))))) (ln (un (fr (na (x.mul (fr (na y) (-nb y) 1)) * (nd y : Int)) (nb (x.mul (fr (na y) (-nb y) 1)) * (nd y : Int)) (nd (x.mul (fr (na y) (-nb y) 1)) * ab (na y * na y + nb y * nb y)))))], .int .i64 0]) (by simp [results, Tryz.results32, go_sem, r0, r1, r2, r3, r4, f0, f1, f2, f3, f4]) rfl (retNumE_fin HW d7 (by omega) r0)
theorem sz_div {K : Nat} {x y : Cx} (hK : 1 ≤ K) (hx : sz K x) (hy : sz K y) (h0 : y ≠ Cx.zero) : sz (4 * K + 2) (x.div y) := by
  rw [← div_fr x h0]
  have hz := sz_mul hx (fr_sz (a := na y) (b := -nb y) (d := 1) (by omega) hy.1 (by rw [ab_neg]; exact hy.2.1) (by rw [ln_one]; exact hK))
  refine fr_sz (div_ne x h0) ?_ ?_ ?_
  · have := ab_mul_ln hz.1 (ab_nat_ln hy.2.2); omega
  · have := ab_mul_ln hz.2.1 (ab_nat_ln hy.2.2); omega
  · have h1 := ab_add_ln (ab_mul_ln hy.1 hy.1) (ab_mul_ln hy.2.1 hy.2.1); have := nat_mul_ln hz.2.2 h1; omega
end Go.Proofs.YtgpmlhpgdalheaaGreat

namespace Go.Proofs.YtgpmlhpgdalheaaGreat
open Go.RowKit Pl
set_option linter.unusedVariables false
set_option linter.unusedSimpArgs false
/-- The quotients by an integer. -/
def frz (a b d : Int) : Cx := ⟨(a : Rat) / (d : Rat), (b : Rat) / (d : Rat)⟩
theorem frz_pos {a b d : Int} (h : 0 < d) : fr a b (ab d) = frz a b d := by
  have : ((ab d : Nat) : Int) = d := by unfold ab; omega
  have e : ((ab d : Nat) : Rat) = (d : Rat) := by rw [← Rat.intCast_natCast, this]
  unfold fr frz; rw [e]
theorem frz_neg {a b d : Int} (h : d < 0) : fr (-a) (-b) (ab d) = frz a b d := by
  have : ((ab d : Nat) : Int) = -d := by unfold ab; omega
  have e : ((ab d : Nat) : Rat) = -(d : Rat) := by rw [← Rat.intCast_natCast, this, Rat.intCast_neg]
  have hd : (d : Rat) ≠ 0 := by intro e; have := Rat.intCast_eq_zero_iff.1 e; omega
  unfold fr frz; rw [e, Rat.intCast_neg, Rat.intCast_neg]; congr 1 <;> grind
/-- Two local integers in the blocks p and p + 1 are set. -/
def set4 (w : World) (p : Nat) (z1 z2 : Int) (M1 M2 : Option Addr) : World :=
  (((w.setCell ⟨p, 0, none⟩ (.bool (sn z1))).setCell ⟨p, 1, none⟩ (.slice M1 (ln (ab z1)) (ln (ab z1)))).setCell ⟨p + 1, 0, none⟩ (.bool (sn z2))).setCell ⟨p + 1, 1, none⟩ (.slice M2 (ln (ab z2)) (ln (ab z2)))
theorem set4_size (w : World) (p : Nat) (z1 z2 : Int) (M1 M2 : Option Addr) : (set4 w p z1 z2 M1 M2).heap.size = w.heap.size := by simp [set4, World.setCell]
theorem set4_cell {w : World} {p b i : Nat} {z1 z2 : Int} {M1 M2 : Option Addr} {v : Value} (h : w.cell? ⟨b, i, none⟩ = some v) (h1 : b ≠ p) (h2 : b ≠ p + 1) : (set4 w p z1 z2 M1 M2).cell? ⟨b, i, none⟩ = some v := keepo (keepo (keepo (keepo h (.inl h1)) (.inl h1)) (.inl h2)) (.inl h2)
theorem set4_frozen {w : World} {p b i : Nat} {z1 z2 : Int} {M1 M2 : Option Addr} {v : Bool} (h : w.frozen? ⟨b, i, none⟩ = v) : (set4 w p z1 z2 M1 M2).frozen? ⟨b, i, none⟩ = v := keepof (keepof (keepof (keepof h)))
theorem set4_below {w W : World} {B p : Nat} {z1 z2 : Int} {M1 M2 : Option Addr} (h : Below B w W) (hp : B ≤ p) : Below B w (set4 W p z1 z2 M1 M2) :=
  (((h.setCell (by exact hp) _).setCell (by exact hp) _).setCell (by show B ≤ p + 1; omega) _).setCell (by show B ≤ p + 1; omega) _
theorem set4_nat {w : World} {p n : Nat} {z1 z2 : Int} {M1 M2 A : Option Addr} {c1 c2 : Bool} (h : Nat32 w A n) (u1 : w.cell? ⟨p, 0, none⟩ = some (.bool c1)) (u2 : w.cell? ⟨p + 1, 0, none⟩ = some (.bool c2)) : Nat32 (set4 w p z1 z2 M1 M2) A n := by
  have nb : ∀ (b : Bool) k m, Value.bool b ≠ .int k m := by intro b k m e; cases e
  have a1 := cell_self (u := .bool (sn z1)) u1
  have b1 : ((w.setCell ⟨p, 0, none⟩ (.bool (sn z1))).setCell ⟨p, 1, none⟩ (.slice M1 (ln (ab z1)) (ln (ab z1)))).cell? ⟨p + 1, 0, none⟩ = some (.bool c2) := keepo (keepo u2 (.inl (by omega))) (.inl (by omega))
  exact (((h.setBox u1 (nb _)).setBox a1 (nb _)).setBox b1 (nb _)).setBox (cell_self b1) (nb _)
set_option maxHeartbeats 4000000 in
theorem new_pos (a b d : Int) (w : World) (ha : -9223372036854775808 ≤ a ∧ a ≤ 9223372036854775807) (hb : -9223372036854775808 ≤ b ∧ b ≤ 9223372036854775807) (hd : -9223372036854775808 ≤ d ∧ d ≤ 9223372036854775807) (h : 0 < d) :
    Calls Tryz.prog 119 #[.int .i64 a, .int .i64 b, .int .i64 d] w (RetNumE w 0 (frz a b d)) := by
  have HA := Lib.hid ha
  have HB := Lib.hid hb
  have HD := Lib.hid hd
  clear ha hb hd
  rw [← frz_pos h]
  have t : (d == 0) = false := by rw [beq_eq_false_iff_ne]; omega
  have t1 : sn d = false := by unfold sn; rw [decide_eq_false_iff_not]; omega
  have HN : Hid (ab d ≠ 0) := Lib.hid (by unfold ab; omega)
  clear h
  go_enter Tryz.func119, Tryz.ntmps119
  go_wp2_with fail
  obtain ⟨W, hW⟩ : ∃ W : World, W = (w.alloc (.cells #[.bool false, .slice none 0 0, .bool false, .slice none 0 0, .slice none 0 0] 30)) := ⟨_, rfl⟩
  have r0 : W.cell? ⟨w.heap.size, 0, none⟩ = some (.bool false) := by subst hW; go_simp
  have f0 : W.frozen? ⟨w.heap.size, 0, none⟩ = false := by subst hW; go_simp
  have r1 : W.cell? ⟨w.heap.size, 1, none⟩ = some (.slice none 0 0) := by subst hW; go_simp
  have f1 : W.frozen? ⟨w.heap.size, 1, none⟩ = false := by subst hW; go_simp
  have r2 : W.cell? ⟨w.heap.size, 2, none⟩ = some (.bool false) := by subst hW; go_simp
  have f2 : W.frozen? ⟨w.heap.size, 2, none⟩ = false := by subst hW; go_simp
  have r3 : W.cell? ⟨w.heap.size, 3, none⟩ = some (.slice none 0 0) := by subst hW; go_simp
  have f3 : W.frozen? ⟨w.heap.size, 3, none⟩ = false := by subst hW; go_simp
  have r4 : W.cell? ⟨w.heap.size, 4, none⟩ = some (.slice none 0 0) := by subst hW; go_simp
  have f4 : W.frozen? ⟨w.heap.size, 4, none⟩ = false := by subst hW; go_simp
  have HW : Below w.heap.size w W := by subst hW; exact ((Below.refl w.heap.size w).alloc (Nat.le_refl _) _)
  have l0 : w.heap.size < W.heap.size := by subst hW; simp
  rw [← hW]
  clear hW
  replace HW := Lib.hid HW
  refine (of64_any a _ HA.out.1 HA.out.2).mono ?_
  rintro e w1 ⟨A1, rfl, h1, hb1⟩
  replace r0 := keepc hb1 r0 l0
  replace f0 := keepf hb1 f0 l0
  replace r1 := keepc hb1 r1 l0
  replace f1 := keepf hb1 f1 l0
  replace r2 := keepc hb1 r2 l0
  replace f2 := keepf hb1 f2 l0
  replace r3 := keepc hb1 r3 l0
  replace f3 := keepf hb1 f3 l0
  replace r4 := keepc hb1 r4 l0
  replace f4 := keepf hb1 f4 l0
  replace l0 := Nat.lt_of_lt_of_le l0 hb1.size
  replace HW := Lib.hid (hstep HW hb1)
  clear hb1
  go_wp2_with fail
  refine (of64_any b _ HB.out.1 HB.out.2).mono ?_
  rintro e w2 ⟨A2, rfl, h2, hb2⟩
  replace r0 := keepc hb2 r0 l0
  replace f0 := keepf hb2 f0 l0
  replace r1 := keepc hb2 r1 l0
  replace f1 := keepf hb2 f1 l0
  replace r2 := keepc hb2 r2 l0
  replace f2 := keepf hb2 f2 l0
  replace r3 := keepc hb2 r3 l0
  replace f3 := keepf hb2 f3 l0
  replace r4 := keepc hb2 r4 l0
  replace f4 := keepf hb2 f4 l0
  replace l0 := Nat.lt_of_lt_of_le l0 hb2.size
  replace h1 := h1.to hb2
  replace HW := Lib.hid (hstep HW hb2)
  clear hb2
  go_wp2_with fail
  refine (of64_any d _ HD.out.1 HD.out.2).mono ?_
  rintro e w3 ⟨A3, rfl, h3, hb3⟩
  replace r0 := keepc hb3 r0 l0
  replace f0 := keepf hb3 f0 l0
  replace r1 := keepc hb3 r1 l0
  replace f1 := keepf hb3 f1 l0
  replace r2 := keepc hb3 r2 l0
  replace f2 := keepf hb3 f2 l0
  replace r3 := keepc hb3 r3 l0
  replace f3 := keepf hb3 f3 l0
  replace r4 := keepc hb3 r4 l0
  replace f4 := keepf hb3 f4 l0
  replace l0 := Nat.lt_of_lt_of_le l0 hb3.size
  replace h1 := h1.to hb3
  replace h2 := h2.to hb3
  replace HW := Lib.hid (hstep HW hb3)
  clear hb3
  go_wp2_with fail
  refine (over_any a b (ab d) A1 A2 A3 _ (by exact (((h1.alloc _).alloc _).alloc _)) (by exact (((h2.alloc _).alloc _).alloc _)) (by exact (((h3.alloc _).alloc _).alloc _)) (by have := ab_small HA.out.1 HA.out.2; omega) (by have := ab_small HB.out.1 HB.out.2; omega) (by have := ab_small HD.out.1 HD.out.2; omega) HN.out).mono ?_
  rintro e w4 ⟨Z1, Z2, Z3, rfl, h4, hb4⟩
  replace hb4 := unalloc (unalloc (unalloc hb4))
  replace r0 := keepc hb4 r0 l0
  replace f0 := keepf hb4 f0 l0
  replace r1 := keepc hb4 r1 l0
  replace f1 := keepf hb4 f1 l0
  replace r2 := keepc hb4 r2 l0
  replace f2 := keepf hb4 f2 l0
  replace r3 := keepc hb4 r3 l0
  replace f3 := keepf hb4 f3 l0
  replace r4 := keepc hb4 r4 l0
  replace f4 := keepf hb4 f4 l0
  replace l0 := Nat.lt_of_lt_of_le l0 hb4.size
  replace h1 := h1.to hb4
  replace h2 := h2.to hb4
  replace h3 := h3.to hb4
  replace HW := Lib.hid (hstep HW hb4)
  clear hb4
  go_wp2_with fail
  exact bodyPost_ret (v := .tuple #[.agg #[.bool (sn (na (fr a b (ab d)))), .slice Z1 (ln (ab (na (fr a b (ab d))))) (ln (ab (na (fr a b (ab d))))), .bool (sn (nb (fr a b (ab d)))), .slice Z2 (ln (ab (nb (fr a b (ab d))))) (ln (ab (nb (fr a b (ab d))))), .slice Z3 (ln (un (fr a b (ab d)))) (ln (un (fr a b (ab d))))], .int .i64 0]) (by simp [results, Tryz.results119, go_sem, r0, r1, r2, r3, r4, f0, f1, f2, f3, f4]) rfl (retNumE_fin HW h4 (by omega) r0)
set_option maxHeartbeats 4000000 in
theorem new_neg (a b d : Int) (w : World) (ha : -9223372036854775808 ≤ a ∧ a ≤ 9223372036854775807) (hb : -9223372036854775808 ≤ b ∧ b ≤ 9223372036854775807) (hd : -9223372036854775808 ≤ d ∧ d ≤ 9223372036854775807) (h : d < 0) :
    Calls Tryz.prog 119 #[.int .i64 a, .int .i64 b, .int .i64 d] w (RetNumE w 0 (frz a b d)) := by
  have HA := Lib.hid ha
  have HB := Lib.hid hb
  have HD := Lib.hid hd
  clear ha hb hd
  rw [← frz_neg h]
  have t : (d == 0) = false := by rw [beq_eq_false_iff_ne]; omega
  have t1 : sn d = true := by unfold sn; rw [decide_eq_true_eq]; omega
  have HN : Hid (ab d ≠ 0) := Lib.hid (by unfold ab; omega)
  clear h
  go_enter Tryz.func119, Tryz.ntmps119
  go_wp2_with fail
  obtain ⟨W, hW⟩ : ∃ W : World, W = (w.alloc (.cells #[.bool false, .slice none 0 0, .bool false, .slice none 0 0, .slice none 0 0] 30)) := ⟨_, rfl⟩
  have r0 : W.cell? ⟨w.heap.size, 0, none⟩ = some (.bool false) := by subst hW; go_simp
  have f0 : W.frozen? ⟨w.heap.size, 0, none⟩ = false := by subst hW; go_simp
  have r1 : W.cell? ⟨w.heap.size, 1, none⟩ = some (.slice none 0 0) := by subst hW; go_simp
  have f1 : W.frozen? ⟨w.heap.size, 1, none⟩ = false := by subst hW; go_simp
  have r2 : W.cell? ⟨w.heap.size, 2, none⟩ = some (.bool false) := by subst hW; go_simp
  have f2 : W.frozen? ⟨w.heap.size, 2, none⟩ = false := by subst hW; go_simp
  have r3 : W.cell? ⟨w.heap.size, 3, none⟩ = some (.slice none 0 0) := by subst hW; go_simp
  have f3 : W.frozen? ⟨w.heap.size, 3, none⟩ = false := by subst hW; go_simp
  have r4 : W.cell? ⟨w.heap.size, 4, none⟩ = some (.slice none 0 0) := by subst hW; go_simp
  have f4 : W.frozen? ⟨w.heap.size, 4, none⟩ = false := by subst hW; go_simp
  have HW : Below w.heap.size w W := by subst hW; exact ((Below.refl w.heap.size w).alloc (Nat.le_refl _) _)
  have l0 : w.heap.size < W.heap.size := by subst hW; simp
  rw [← hW]
  clear hW
  replace HW := Lib.hid HW
  refine (of64_any a _ HA.out.1 HA.out.2).mono ?_
  rintro e w1 ⟨A1, rfl, h1, hb1⟩
  replace r0 := keepc hb1 r0 l0
  replace f0 := keepf hb1 f0 l0
  replace r1 := keepc hb1 r1 l0
  replace f1 := keepf hb1 f1 l0
  replace r2 := keepc hb1 r2 l0
  replace f2 := keepf hb1 f2 l0
  replace r3 := keepc hb1 r3 l0
  replace f3 := keepf hb1 f3 l0
  replace r4 := keepc hb1 r4 l0
  replace f4 := keepf hb1 f4 l0
  replace l0 := Nat.lt_of_lt_of_le l0 hb1.size
  replace HW := Lib.hid (hstep HW hb1)
  clear hb1
  go_wp2_with fail
  refine (of64_any b _ HB.out.1 HB.out.2).mono ?_
  rintro e w2 ⟨A2, rfl, h2, hb2⟩
  replace r0 := keepc hb2 r0 l0
  replace f0 := keepf hb2 f0 l0
  replace r1 := keepc hb2 r1 l0
  replace f1 := keepf hb2 f1 l0
  replace r2 := keepc hb2 r2 l0
  replace f2 := keepf hb2 f2 l0
  replace r3 := keepc hb2 r3 l0
  replace f3 := keepf hb2 f3 l0
  replace r4 := keepc hb2 r4 l0
  replace f4 := keepf hb2 f4 l0
  replace l0 := Nat.lt_of_lt_of_le l0 hb2.size
  replace h1 := h1.to hb2
  replace HW := Lib.hid (hstep HW hb2)
  clear hb2
  go_wp2_with fail
  refine (of64_any d _ HD.out.1 HD.out.2).mono ?_
  rintro e w3 ⟨A3, rfl, h3, hb3⟩
  replace r0 := keepc hb3 r0 l0
  replace f0 := keepf hb3 f0 l0
  replace r1 := keepc hb3 r1 l0
  replace f1 := keepf hb3 f1 l0
  replace r2 := keepc hb3 r2 l0
  replace f2 := keepf hb3 f2 l0
  replace r3 := keepc hb3 r3 l0
  replace f3 := keepf hb3 f3 l0
  replace r4 := keepc hb3 r4 l0
  replace f4 := keepf hb3 f4 l0
  replace l0 := Nat.lt_of_lt_of_le l0 hb3.size
  replace h1 := h1.to hb3
  replace h2 := h2.to hb3
  replace HW := Lib.hid (hstep HW hb3)
  clear hb3
  go_upto_region 5 with fail
  obtain ⟨X, hX⟩ : ∃ X : World, X = (((w3.alloc (.cells #[.bool (sn a), .slice A1 (ln (ab a)) (ln (ab a))] 28)).alloc (.cells #[.bool (sn b), .slice A2 (ln (ab b)) (ln (ab b))] 28)).alloc (.cells #[.bool true, .slice A3 (ln (ab d)) (ln (ab d))] 28)) := ⟨_, rfl⟩
  rw [← hX]
  have hX3 : Below w3.heap.size w3 X := by subst hX; exact (((Below.refl _ _).alloc (Nat.le_refl _) _).alloc (by simp) _).alloc (by simp; omega) _
  have u0_0 : X.cell? ⟨w3.heap.size, 0, none⟩ = some (.bool (sn a)) := by subst hX; go_simp
  have u0_1 : X.cell? ⟨w3.heap.size, 1, none⟩ = some (.slice A1 (ln (ab a)) (ln (ab a))) := by subst hX; go_simp
  have e0_0 : X.frozen? ⟨w3.heap.size, 0, none⟩ = false := by subst hX; go_simp
  have e0_1 : X.frozen? ⟨w3.heap.size, 1, none⟩ = false := by subst hX; go_simp
  have l200 : w3.heap.size < X.heap.size := by subst hX; simp <;> omega
  have u1_0 : X.cell? ⟨w3.heap.size + 1, 0, none⟩ = some (.bool (sn b)) := by subst hX; go_simp
  have u1_1 : X.cell? ⟨w3.heap.size + 1, 1, none⟩ = some (.slice A2 (ln (ab b)) (ln (ab b))) := by subst hX; go_simp
  have e1_0 : X.frozen? ⟨w3.heap.size + 1, 0, none⟩ = false := by subst hX; go_simp
  have e1_1 : X.frozen? ⟨w3.heap.size + 1, 1, none⟩ = false := by subst hX; go_simp
  have l201 : w3.heap.size + 1 < X.heap.size := by subst hX; simp <;> omega
  have u2_0 : X.cell? ⟨w3.heap.size + 1 + 1, 0, none⟩ = some (.bool (true)) := by subst hX; go_simp
  have u2_1 : X.cell? ⟨w3.heap.size + 1 + 1, 1, none⟩ = some (.slice A3 (ln (ab d)) (ln (ab d))) := by subst hX; go_simp
  have e2_0 : X.frozen? ⟨w3.heap.size + 1 + 1, 0, none⟩ = false := by subst hX; go_simp
  have e2_1 : X.frozen? ⟨w3.heap.size + 1 + 1, 1, none⟩ = false := by subst hX; go_simp
  have l202 : w3.heap.size + 1 + 1 < X.heap.size := by subst hX; simp <;> omega
  clear hX
  have hb4 := hX3
  clear hX3
  have hp : w.heap.size < w3.heap.size := l0
  replace r0 := keepc hb4 r0 l0
  replace f0 := keepf hb4 f0 l0
  replace r1 := keepc hb4 r1 l0
  replace f1 := keepf hb4 f1 l0
  replace r2 := keepc hb4 r2 l0
  replace f2 := keepf hb4 f2 l0
  replace r3 := keepc hb4 r3 l0
  replace f3 := keepf hb4 f3 l0
  replace r4 := keepc hb4 r4 l0
  replace f4 := keepf hb4 f4 l0
  replace l0 := Nat.lt_of_lt_of_le l0 hb4.size
  replace h1 := h1.to hb4
  replace h2 := h2.to hb4
  replace h3 := h3.to hb4
  replace HW := Lib.hid (hstep HW hb4)
  clear hb4
  generalize w3.heap.size = p at *
  have d0 : p ≠ w.heap.size := by omega
  have d1 : p + 1 ≠ w.heap.size := by omega
  have d2 : p + 1 ≠ p := by omega
  go_region_with (first
    | (go_at_call_of 105 (Value.slice A1 (ln (ab a)) (ln (ab a))); refine (minus_any a A1 _ (by exact h1)).mono ?_; rintro e w5 ⟨M0, rfl, q0, hb5⟩; have hb5 := undrew hb5; replace u0_0 := keepc hb5 u0_0 l200; replace u0_1 := keepc hb5 u0_1 l200; replace u1_0 := keepc hb5 u1_0 l201; replace u1_1 := keepc hb5 u1_1 l201; replace u2_0 := keepc hb5 u2_0 l202; replace u2_1 := keepc hb5 u2_1 l202; replace r0 := keepc hb5 r0 l0; replace f0 := keepf hb5 f0 l0; replace r1 := keepc hb5 r1 l0; replace f1 := keepf hb5 f1 l0; replace r2 := keepc hb5 r2 l0; replace f2 := keepf hb5 f2 l0; replace r3 := keepc hb5 r3 l0; replace f3 := keepf hb5 f3 l0; replace r4 := keepc hb5 r4 l0; replace f4 := keepf hb5 f4 l0; replace e0_0 := keepf hb5 e0_0 l200; replace e0_1 := keepf hb5 e0_1 l200; replace e1_0 := keepf hb5 e1_0 l201; replace e1_1 := keepf hb5 e1_1 l201; replace e2_0 := keepf hb5 e2_0 l202; replace e2_1 := keepf hb5 e2_1 l202; replace l0 := Nat.lt_of_lt_of_le l0 hb5.size; replace l200 := Nat.lt_of_lt_of_le l200 hb5.size; replace l201 := Nat.lt_of_lt_of_le l201 hb5.size; replace l202 := Nat.lt_of_lt_of_le l202 hb5.size; replace h1 := h1.to hb5; replace h2 := h2.to hb5; replace h3 := h3.to hb5; replace HW := Lib.hid (hstep HW hb5); clear hb5)
    | (go_at_call_of 105 (Value.slice A2 (ln (ab b)) (ln (ab b))); refine (minus_any b A2 _ (by exact h2)).mono ?_; rintro e w6 ⟨M1, rfl, q1, hb6⟩; replace u0_0 := keepc hb6 u0_0 l200; replace u0_1 := keepc hb6 u0_1 l200; replace u1_0 := keepc hb6 u1_0 l201; replace u1_1 := keepc hb6 u1_1 l201; replace u2_0 := keepc hb6 u2_0 l202; replace u2_1 := keepc hb6 u2_1 l202; replace r0 := keepc hb6 r0 l0; replace f0 := keepf hb6 f0 l0; replace r1 := keepc hb6 r1 l0; replace f1 := keepf hb6 f1 l0; replace r2 := keepc hb6 r2 l0; replace f2 := keepf hb6 f2 l0; replace r3 := keepc hb6 r3 l0; replace f3 := keepf hb6 f3 l0; replace r4 := keepc hb6 r4 l0; replace f4 := keepf hb6 f4 l0; replace e0_0 := keepf hb6 e0_0 l200; replace e0_1 := keepf hb6 e0_1 l200; replace e1_0 := keepf hb6 e1_0 l201; replace e1_1 := keepf hb6 e1_1 l201; replace e2_0 := keepf hb6 e2_0 l202; replace e2_1 := keepf hb6 e2_1 l202; replace l0 := Nat.lt_of_lt_of_le l0 hb6.size; replace l200 := Nat.lt_of_lt_of_le l200 hb6.size; replace l201 := Nat.lt_of_lt_of_le l201 hb6.size; replace l202 := Nat.lt_of_lt_of_le l202 hb6.size; replace h1 := h1.to hb6; replace h2 := h2.to hb6; replace h3 := h3.to hb6; replace q0 := q0.to hb6; replace HW := Lib.hid (hstep HW hb6); clear hb6))
  all_goals
    go_wp2_with fail
    obtain ⟨X2, hX2⟩ : ∃ X : World, X = set4 w6 p (-a) (-b) M0 M1 := ⟨_, rfl⟩
    have hw : set4 w6 p (-a) (-b) M0 M1 = X2 := hX2.symm
    unfold set4 at hw
    rw [hw]
    clear hw
    replace q0 := set4_nat (z1 := -a) (z2 := -b) (M1 := M0) (M2 := M1) q0 u0_0 u1_0
    rw [← hX2] at q0
    replace q1 := set4_nat (z1 := -a) (z2 := -b) (M1 := M0) (M2 := M1) q1 u0_0 u1_0
    rw [← hX2] at q1
    replace h3 := set4_nat (z1 := -a) (z2 := -b) (M1 := M0) (M2 := M1) h3 u0_0 u1_0
    rw [← hX2] at h3
    replace r0 := set4_cell (z1 := -a) (z2 := -b) (M1 := M0) (M2 := M1) (p := p) r0 (by omega) (by omega)
    rw [← hX2] at r0
    replace f0 := set4_frozen (z1 := -a) (z2 := -b) (M1 := M0) (M2 := M1) (p := p) f0
    rw [← hX2] at f0
    replace r1 := set4_cell (z1 := -a) (z2 := -b) (M1 := M0) (M2 := M1) (p := p) r1 (by omega) (by omega)
    rw [← hX2] at r1
    replace f1 := set4_frozen (z1 := -a) (z2 := -b) (M1 := M0) (M2 := M1) (p := p) f1
    rw [← hX2] at f1
    replace r2 := set4_cell (z1 := -a) (z2 := -b) (M1 := M0) (M2 := M1) (p := p) r2 (by omega) (by omega)
    rw [← hX2] at r2
    replace f2 := set4_frozen (z1 := -a) (z2 := -b) (M1 := M0) (M2 := M1) (p := p) f2
    rw [← hX2] at f2
    replace r3 := set4_cell (z1 := -a) (z2 := -b) (M1 := M0) (M2 := M1) (p := p) r3 (by omega) (by omega)
    rw [← hX2] at r3
    replace f3 := set4_frozen (z1 := -a) (z2 := -b) (M1 := M0) (M2 := M1) (p := p) f3
    rw [← hX2] at f3
    replace r4 := set4_cell (z1 := -a) (z2 := -b) (M1 := M0) (M2 := M1) (p := p) r4 (by omega) (by omega)
    rw [← hX2] at r4
    replace f4 := set4_frozen (z1 := -a) (z2 := -b) (M1 := M0) (M2 := M1) (p := p) f4
    rw [← hX2] at f4
    replace HW := Lib.hid (set4_below (z1 := -a) (z2 := -b) (M1 := M0) (M2 := M1) HW.out (show w.heap.size ≤ p by omega))
    rw [← hX2] at HW
    have l0 : w.heap.size < X2.heap.size := by rw [hX2, set4_size]; exact l0
    clear u0_0 u0_1 u1_0 u1_1 u2_0 u2_1 e0_0 e0_1 e1_0 e1_1 e2_0 e2_1 l200 l201 l202 hX2
    refine (over_any (-a) (-b) (ab d) M0 M1 A3 _ (by exact q0) (by exact q1) (by exact h3) (by rw [ab_neg]; have := ab_small HA.out.1 HA.out.2; omega) (by rw [ab_neg]; have := ab_small HB.out.1 HB.out.2; omega) (by have := ab_small HD.out.1 HD.out.2; omega) HN.out).mono ?_
    rintro e w9 ⟨Z1, Z2, Z3, rfl, h9, hb9⟩
    replace r0 := keepc hb9 r0 l0
    replace f0 := keepf hb9 f0 l0
    replace r1 := keepc hb9 r1 l0
    replace f1 := keepf hb9 f1 l0
    replace r2 := keepc hb9 r2 l0
    replace f2 := keepf hb9 f2 l0
    replace r3 := keepc hb9 r3 l0
    replace f3 := keepf hb9 f3 l0
    replace r4 := keepc hb9 r4 l0
    replace f4 := keepf hb9 f4 l0
    replace HW := Lib.hid (hstep HW hb9)
    go_wp2_with fail
    exact bodyPost_ret (v := .tuple #[.agg #[.bool (sn (na (fr (-a) (-b) (ab d)))), .slice Z1 (ln (ab (na (fr (-a) (-b) (ab d))))) (ln (ab (na (fr (-a) (-b) (ab d))))), .bool (sn (nb (fr (-a) (-b) (ab d)))), .slice Z2 (ln (ab (nb (fr (-a) (-b) (ab d))))) (ln (ab (nb (fr (-a) (-b) (ab d))))), .slice Z3 (ln (un (fr (-a) (-b) (ab d)))) (ln (un (fr (-a) (-b) (ab d))))], .int .i64 0]) (by simp [results, Tryz.results119, go_sem, r0, r1, r2, r3, r4, f0, f1, f2, f3, f4]) rfl (retNumE_fin HW h9 (by omega) r0)
theorem new_any (a b d : Int) (w : World) (ha : -9223372036854775808 ≤ a ∧ a ≤ 9223372036854775807) (hb : -9223372036854775808 ≤ b ∧ b ≤ 9223372036854775807) (hd : -9223372036854775808 ≤ d ∧ d ≤ 9223372036854775807) (h : d ≠ 0) :
    Calls Tryz.prog 119 #[.int .i64 a, .int .i64 b, .int .i64 d] w (RetNumE w 0 (frz a b d)) :=
  if h0 : 0 < d then new_pos a b d w ha hb hd h0 else new_neg a b d w ha hb hd (by omega)
end Go.Proofs.YtgpmlhpgdalheaaGreat

namespace Go.Proofs.YtgpmlhpgdalheaaGreat
open Go.RowKit Pl
set_option linter.unusedVariables false
set_option linter.unusedSimpArgs false
/-- A Num is stored into the five cells of the block p. -/
def set5 (w : World) (p : Nat) (q : Cx) (A1 A2 A3 : Option Addr) : World :=
  ((((w.setCell ⟨p, 0, none⟩ (.bool (sn (na q)))).setCell ⟨p, 1, none⟩ (.slice A1 (ln (ab (na q))) (ln (ab (na q))))).setCell ⟨p, 2, none⟩ (.bool (sn (nb q)))).setCell ⟨p, 3, none⟩ (.slice A2 (ln (ab (nb q))) (ln (ab (nb q))))).setCell ⟨p, 4, none⟩ (.slice A3 (ln (un q)) (ln (un q)))
theorem set5_size (w : World) (p : Nat) (q : Cx) (A1 A2 A3 : Option Addr) : (set5 w p q A1 A2 A3).heap.size = w.heap.size := by simp [set5, World.setCell]
theorem set5_cell {w : World} {p b i : Nat} {q : Cx} {A1 A2 A3 : Option Addr} {v : Value} (h : w.cell? ⟨b, i, none⟩ = some v) (h1 : b ≠ p) : (set5 w p q A1 A2 A3).cell? ⟨b, i, none⟩ = some v := keepo (keepo (keepo (keepo (keepo h (.inl h1)) (.inl h1)) (.inl h1)) (.inl h1)) (.inl h1)
theorem set5_frozen {w : World} {p b i : Nat} {q : Cx} {A1 A2 A3 : Option Addr} {v : Bool} (h : w.frozen? ⟨b, i, none⟩ = v) : (set5 w p q A1 A2 A3).frozen? ⟨b, i, none⟩ = v := keepof (keepof (keepof (keepof (keepof h))))
theorem set5_below {w W : World} {B p : Nat} {q : Cx} {A1 A2 A3 : Option Addr} (h : Below B w W) (hp : B ≤ p) : Below B w (set5 W p q A1 A2 A3) :=
  ((((h.setCell (by exact hp) _).setCell (by exact hp) _).setCell (by exact hp) _).setCell (by exact hp) _).setCell (by exact hp) _
theorem set5_nat {w : World} {p n : Nat} {q : Cx} {A1 A2 A3 A : Option Addr} {c : Bool} (h : Nat32 w A n) (u : w.cell? ⟨p, 0, none⟩ = some (.bool c)) : Nat32 (set5 w p q A1 A2 A3) A n := by
  have nb : ∀ (b : Bool) k m, Value.bool b ≠ .int k m := by intro b k m e; cases e
  have a1 := cell_self (u := .bool (sn (na q))) u
  have a2 := keepo (R := p) (j := 1) (u := .slice A1 (ln (ab (na q))) (ln (ab (na q)))) a1 (.inr (by omega))
  have a3 := keepo (R := p) (j := 2) (u := .bool (sn (Pl.nb q))) a2 (.inr (by omega))
  have a4 := keepo (R := p) (j := 3) (u := .slice A2 (ln (ab (Pl.nb q))) (ln (ab (Pl.nb q)))) a3 (.inr (by omega))
  exact ((((h.setBox u (nb _)).setBox a1 (nb _)).setBox a2 (nb _)).setBox a3 (nb _)).setBox a4 (nb _)
theorem set5_num3 {w : World} {p : Nat} {q r : Cx} {A1 A2 A3 B1 B2 B3 : Option Addr} {c : Bool} (h : Num3 w B1 B2 B3 r) (u : w.cell? ⟨p, 0, none⟩ = some (.bool c)) : Num3 (set5 w p q A1 A2 A3) B1 B2 B3 r := ⟨set5_nat h.1 u, set5_nat h.2.1 u, set5_nat h.2.2 u⟩
theorem set5_self {w : World} {p : Nat} {q : Cx} {A1 A2 A3 : Option Addr} {v0 v1 v2 v3 v4 : Value} (u0 : w.cell? ⟨p, 0, none⟩ = some v0) (u1 : w.cell? ⟨p, 1, none⟩ = some v1) (u2 : w.cell? ⟨p, 2, none⟩ = some v2) (u3 : w.cell? ⟨p, 3, none⟩ = some v3) (u4 : w.cell? ⟨p, 4, none⟩ = some v4) : Cells5 (set5 w p q A1 A2 A3) p q A1 A2 A3 := by
  unfold set5
  have o0 := cell_self (u := .bool (sn (na q))) u0
  refine ⟨?_, ?_, ?_, ?_, ?_⟩
  · exact keepo (keepo (keepo (keepo o0 (by omega)) (by omega)) (by omega)) (by omega)
  · exact keepo (keepo (keepo (cell_self (keepo u1 (by omega))) (by omega)) (by omega)) (by omega)
  · exact keepo (keepo (cell_self (keepo (keepo u2 (by omega)) (by omega))) (by omega)) (by omega)
  · exact keepo (cell_self (keepo (keepo (keepo u3 (by omega)) (by omega)) (by omega))) (by omega)
  · exact cell_self (keepo (keepo (keepo (keepo u4 (by omega)) (by omega)) (by omega)) (by omega))
set_option maxHeartbeats 4000000 in
theorem of_more (a b d : Int) (w : World) (ha : -9223372036854775808 ≤ a ∧ a ≤ 9223372036854775807) (hb : -9223372036854775808 ≤ b ∧ b ≤ 9223372036854775807) (hd : -9223372036854775808 ≤ d ∧ d ≤ 9223372036854775807) (h : d ≠ 0) :
    Calls Tryz.prog 58 #[.agg #[.int .i64 a, .int .i64 b, .int .i64 d]] w (RetNum w (frz a b d)) := by
  have HA := Lib.hid ha
  have HB := Lib.hid hb
  have HD := Lib.hid hd
  have H0 := Lib.hid h
  have t : (d == 0) = false := by rw [beq_eq_false_iff_ne]; omega
  clear ha hb hd h
  go_enter Tryz.func58, Tryz.ntmps58
  go_wp2_with fail
  obtain ⟨W, hW⟩ : ∃ W : World, W = ((w.alloc (.cells #[.int .i64 a, .int .i64 b, .int .i64 d] 23)).alloc (.cells #[.bool false, .slice none 0 0, .bool false, .slice none 0 0, .slice none 0 0] 30)) := ⟨_, rfl⟩
  have s0_0 : W.cell? ⟨w.heap.size, 0, none⟩ = some (.int .i64 a) := by subst hW; go_simp
  have s0_1 : W.cell? ⟨w.heap.size, 1, none⟩ = some (.int .i64 b) := by subst hW; go_simp
  have s0_2 : W.cell? ⟨w.heap.size, 2, none⟩ = some (.int .i64 d) := by subst hW; go_simp
  have r0 : W.cell? ⟨w.heap.size + 1, 0, none⟩ = some (.bool false) := by subst hW; go_simp
  have f0 : W.frozen? ⟨w.heap.size + 1, 0, none⟩ = false := by subst hW; go_simp
  have r1 : W.cell? ⟨w.heap.size + 1, 1, none⟩ = some (.slice none 0 0) := by subst hW; go_simp
  have f1 : W.frozen? ⟨w.heap.size + 1, 1, none⟩ = false := by subst hW; go_simp
  have r2 : W.cell? ⟨w.heap.size + 1, 2, none⟩ = some (.bool false) := by subst hW; go_simp
  have f2 : W.frozen? ⟨w.heap.size + 1, 2, none⟩ = false := by subst hW; go_simp
  have r3 : W.cell? ⟨w.heap.size + 1, 3, none⟩ = some (.slice none 0 0) := by subst hW; go_simp
  have f3 : W.frozen? ⟨w.heap.size + 1, 3, none⟩ = false := by subst hW; go_simp
  have r4 : W.cell? ⟨w.heap.size + 1, 4, none⟩ = some (.slice none 0 0) := by subst hW; go_simp
  have f4 : W.frozen? ⟨w.heap.size + 1, 4, none⟩ = false := by subst hW; go_simp
  have HW : Below w.heap.size w W := by subst hW; exact (((Below.refl w.heap.size w).alloc (Nat.le_refl _) _).alloc (by simp) _)
  have l0 : w.heap.size < W.heap.size := by subst hW; simp <;> omega
  have l1 : w.heap.size + 1 < W.heap.size := by subst hW; simp
  have n0 : w.heap.size ≠ w.heap.size + 1 := by omega
  rw [← hW]
  clear hW
  replace HW := Lib.hid HW
  refine (new_any a b d _ HA.out HB.out HD.out H0.out).mono ?_
  rintro e w1 ⟨A1, A2, A3, rfl, h1, hb1⟩
  replace s0_0 := keepc hb1 s0_0 l0
  replace s0_1 := keepc hb1 s0_1 l0
  replace s0_2 := keepc hb1 s0_2 l0
  replace r0 := keepc hb1 r0 l1
  replace f0 := keepf hb1 f0 l1
  replace r1 := keepc hb1 r1 l1
  replace f1 := keepf hb1 f1 l1
  replace r2 := keepc hb1 r2 l1
  replace f2 := keepf hb1 f2 l1
  replace r3 := keepc hb1 r3 l1
  replace f3 := keepf hb1 f3 l1
  replace r4 := keepc hb1 r4 l1
  replace f4 := keepf hb1 f4 l1
  replace l0 := Nat.lt_of_lt_of_le l0 hb1.size
  replace l1 := Nat.lt_of_lt_of_le l1 hb1.size
  replace HW := Lib.hid (hstep HW hb1)
  clear hb1
  go_wp2_with fail
  obtain ⟨X, hX⟩ : ∃ X : World, X = set5 w1 (w.heap.size + 1) (frz a b d) A1 A2 A3 := ⟨_, rfl⟩
  have hw : set5 w1 (w.heap.size + 1) (frz a b d) A1 A2 A3 = X := hX.symm
  unfold set5 at hw
  rw [hw]
  clear hw
  have c5 := set5_self (q := (frz a b d)) (A1 := A1) (A2 := A2) (A3 := A3) r0 r1 r2 r3 r4
  rw [← hX] at c5
  have HX : Hid (Below w.heap.size w X) := by rw [hX]; exact Lib.hid (set5_below HW.out (by omega))
  have hx := set5_num3 (q := (frz a b d)) (A1 := A1) (A2 := A2) (A3 := A3) h1 r0
  rw [← hX] at hx
  have lX : w.heap.size + 1 < X.heap.size := by rw [hX, set5_size]; exact l1
  clear hX
  obtain ⟨Y, hY⟩ : ∃ Y : World, Y = X.alloc (.cells #[.bool (sn (na (frz a b d))), .slice A1 (ln (ab (na (frz a b d)))) (ln (ab (na (frz a b d)))), .bool (sn (nb (frz a b d))), .slice A2 (ln (ab (nb (frz a b d)))) (ln (ab (nb (frz a b d)))), .slice A3 (ln (un (frz a b d))) (ln (un (frz a b d)))] 30) := ⟨_, rfl⟩
  have b1 : Below X.heap.size X Y := by rw [hY]; exact (Below.refl _ _).alloc (Nat.le_refl _) _
  rw [← hY]
  clear hY
  have hy := hx.to b1
  have k0 := keepc b1 c5.1 lX
  have k1 := keepc b1 c5.2.1 lX
  have k2 := keepc b1 c5.2.2.1 lX
  have k3 := keepc b1 c5.2.2.2.1 lX
  have k4 := keepc b1 c5.2.2.2.2 lX
  replace HX := Lib.hid (hstep HX b1)
  clear c5 r0 r1 r2 r3 r4 f0 f1 f2 f3 f4 b1
  exact bodyPost_ret (v := .agg #[.bool (sn (na (frz a b d))), .slice A1 (ln (ab (na (frz a b d)))) (ln (ab (na (frz a b d)))), .bool (sn (nb (frz a b d))), .slice A2 (ln (ab (nb (frz a b d)))) (ln (ab (nb (frz a b d)))), .slice A3 (ln (un (frz a b d))) (ln (un (frz a b d)))]) (by simp [results, Tryz.results58, go_sem, k0, k1, k2, k3, k4]) rfl ⟨A1, A2, A3, rfl, hy, HX.out⟩
set_option maxHeartbeats 4000000 in
theorem of_zero0 (a b : Int) (q : Cx) (w : World) (HN : ∀ w, Calls Tryz.prog 119 #[.int .i64 a, .int .i64 b, .int .i64 1] w (RetNumE w 0 q)) :
    Calls Tryz.prog 58 #[.agg #[.int .i64 a, .int .i64 b, .int .i64 0]] w (RetNum w q) := by
  go_enter Tryz.func58, Tryz.ntmps58
  go_wp2_with fail
  obtain ⟨W, hW⟩ : ∃ W : World, W = ((w.alloc (.cells #[.int .i64 a, .int .i64 b, .int .i64 1] 23)).alloc (.cells #[.bool false, .slice none 0 0, .bool false, .slice none 0 0, .slice none 0 0] 30)) := ⟨_, rfl⟩
  have s0_0 : W.cell? ⟨w.heap.size, 0, none⟩ = some (.int .i64 a) := by subst hW; go_simp
  have s0_1 : W.cell? ⟨w.heap.size, 1, none⟩ = some (.int .i64 b) := by subst hW; go_simp
  have s0_2 : W.cell? ⟨w.heap.size, 2, none⟩ = some (.int .i64 1) := by subst hW; go_simp
  have r0 : W.cell? ⟨w.heap.size + 1, 0, none⟩ = some (.bool false) := by subst hW; go_simp
  have f0 : W.frozen? ⟨w.heap.size + 1, 0, none⟩ = false := by subst hW; go_simp
  have r1 : W.cell? ⟨w.heap.size + 1, 1, none⟩ = some (.slice none 0 0) := by subst hW; go_simp
  have f1 : W.frozen? ⟨w.heap.size + 1, 1, none⟩ = false := by subst hW; go_simp
  have r2 : W.cell? ⟨w.heap.size + 1, 2, none⟩ = some (.bool false) := by subst hW; go_simp
  have f2 : W.frozen? ⟨w.heap.size + 1, 2, none⟩ = false := by subst hW; go_simp
  have r3 : W.cell? ⟨w.heap.size + 1, 3, none⟩ = some (.slice none 0 0) := by subst hW; go_simp
  have f3 : W.frozen? ⟨w.heap.size + 1, 3, none⟩ = false := by subst hW; go_simp
  have r4 : W.cell? ⟨w.heap.size + 1, 4, none⟩ = some (.slice none 0 0) := by subst hW; go_simp
  have f4 : W.frozen? ⟨w.heap.size + 1, 4, none⟩ = false := by subst hW; go_simp
  have HW : Below w.heap.size w W := by subst hW; exact (((Below.refl w.heap.size w).alloc (Nat.le_refl _) _).alloc (by simp) _)
  have l0 : w.heap.size < W.heap.size := by subst hW; simp <;> omega
  have l1 : w.heap.size + 1 < W.heap.size := by subst hW; simp
  have n0 : w.heap.size ≠ w.heap.size + 1 := by omega
  rw [← hW]
  clear hW
  replace HW := Lib.hid HW
  refine (HN _).mono ?_
  rintro e w1 ⟨A1, A2, A3, rfl, h1, hb1⟩
  replace s0_0 := keepc hb1 s0_0 l0
  replace s0_1 := keepc hb1 s0_1 l0
  replace s0_2 := keepc hb1 s0_2 l0
  replace r0 := keepc hb1 r0 l1
  replace f0 := keepf hb1 f0 l1
  replace r1 := keepc hb1 r1 l1
  replace f1 := keepf hb1 f1 l1
  replace r2 := keepc hb1 r2 l1
  replace f2 := keepf hb1 f2 l1
  replace r3 := keepc hb1 r3 l1
  replace f3 := keepf hb1 f3 l1
  replace r4 := keepc hb1 r4 l1
  replace f4 := keepf hb1 f4 l1
  replace l0 := Nat.lt_of_lt_of_le l0 hb1.size
  replace l1 := Nat.lt_of_lt_of_le l1 hb1.size
  replace HW := Lib.hid (hstep HW hb1)
  clear hb1
  go_wp2_with fail
  obtain ⟨X, hX⟩ : ∃ X : World, X = set5 w1 (w.heap.size + 1) q A1 A2 A3 := ⟨_, rfl⟩
  have hw : set5 w1 (w.heap.size + 1) q A1 A2 A3 = X := hX.symm
  unfold set5 at hw
  rw [hw]
  clear hw
  have c5 := set5_self (q := q) (A1 := A1) (A2 := A2) (A3 := A3) r0 r1 r2 r3 r4
  rw [← hX] at c5
  have HX : Hid (Below w.heap.size w X) := by rw [hX]; exact Lib.hid (set5_below HW.out (by omega))
  have hx := set5_num3 (q := q) (A1 := A1) (A2 := A2) (A3 := A3) h1 r0
  rw [← hX] at hx
  have lX : w.heap.size + 1 < X.heap.size := by rw [hX, set5_size]; exact l1
  clear hX
  obtain ⟨Y, hY⟩ : ∃ Y : World, Y = X.alloc (.cells #[.bool (sn (na q)), .slice A1 (ln (ab (na q))) (ln (ab (na q))), .bool (sn (nb q)), .slice A2 (ln (ab (nb q))) (ln (ab (nb q))), .slice A3 (ln (un q)) (ln (un q))] 30) := ⟨_, rfl⟩
  have b1 : Below X.heap.size X Y := by rw [hY]; exact (Below.refl _ _).alloc (Nat.le_refl _) _
  rw [← hY]
  clear hY
  have hy := hx.to b1
  have k0 := keepc b1 c5.1 lX
  have k1 := keepc b1 c5.2.1 lX
  have k2 := keepc b1 c5.2.2.1 lX
  have k3 := keepc b1 c5.2.2.2.1 lX
  have k4 := keepc b1 c5.2.2.2.2 lX
  replace HX := Lib.hid (hstep HX b1)
  clear c5 r0 r1 r2 r3 r4 f0 f1 f2 f3 f4 b1
  exact bodyPost_ret (v := .agg #[.bool (sn (na q)), .slice A1 (ln (ab (na q))) (ln (ab (na q))), .bool (sn (nb q)), .slice A2 (ln (ab (nb q))) (ln (ab (nb q))), .slice A3 (ln (un q)) (ln (un q))]) (by simp [results, Tryz.results58, go_sem, k0, k1, k2, k3, k4]) rfl ⟨A1, A2, A3, rfl, hy, HX.out⟩
/-- The number of plain data: a denominator of 0 means 1. -/
def ofv (a b d : Int) : Cx := frz a b (if d = 0 then 1 else d)
theorem of_any (a b d : Int) (w : World) (ha : -9223372036854775808 ≤ a ∧ a ≤ 9223372036854775807) (hb : -9223372036854775808 ≤ b ∧ b ≤ 9223372036854775807) (hd : -9223372036854775808 ≤ d ∧ d ≤ 9223372036854775807) :
    Calls Tryz.prog 58 #[.agg #[.int .i64 a, .int .i64 b, .int .i64 d]] w (RetNum w (ofv a b d)) := by
  by_cases h : d = 0
  · subst h; exact of_zero0 a b (frz a b 1) w (fun w => new_any a b 1 w ha hb (by omega) (by omega))
  · rw [show ofv a b d = frz a b d by unfold ofv; rw [if_neg h]]; exact of_more a b d w ha hb hd h
theorem sz_frz {a b d : Int} (ha : -9223372036854775808 ≤ a ∧ a ≤ 9223372036854775807) (hb : -9223372036854775808 ≤ b ∧ b ≤ 9223372036854775807) (hd : -9223372036854775808 ≤ d ∧ d ≤ 9223372036854775807) (h : d ≠ 0) : sz 2 (frz a b d) := by
  have xa := ab_small ha.1 ha.2
  have xb := ab_small hb.1 hb.2
  have xd := ab_small hd.1 hd.2
  have h0 : ab d ≠ 0 := by unfold ab; omega
  by_cases hp : 0 < d
  · rw [← frz_pos hp]; exact fr_sz h0 xa xb xd
  · rw [← frz_neg (by omega : d < 0)]; exact fr_sz h0 (by rw [ab_neg]; exact xa) (by rw [ab_neg]; exact xb) xd
theorem sz_of {a b d : Int} (ha : -9223372036854775808 ≤ a ∧ a ≤ 9223372036854775807) (hb : -9223372036854775808 ≤ b ∧ b ≤ 9223372036854775807) (hd : -9223372036854775808 ≤ d ∧ d ≤ 9223372036854775807) : sz 2 (ofv a b d) := by
  unfold ofv
  by_cases h : d = 0
  · rw [if_pos h]; exact sz_frz ha hb (by omega) (by omega)
  · rw [if_neg h]; exact sz_frz ha hb hd h
end Go.Proofs.YtgpmlhpgdalheaaGreat

namespace Go.Proofs.YtgpmlhpgdalheaaGreat
open Go.RowKit Pl
set_option linter.unusedVariables false
set_option linter.unusedSimpArgs false
/-- Operation k has come up. -/
def on (l : Array Bool) (k : Nat) : Bool := l.getD k false
theorem on_ne {l : Array Bool} {i k : Nat} (h : on (l.setIfInBounds i true) k = true) (hn : k ≠ i) : on l k = true := by
  unfold on at *
  rw [Array.getD_eq_getD_getElem?, Array.getElem?_setIfInBounds_ne (by omega)] at h
  rw [Array.getD_eq_getD_getElem?]; exact h
theorem on_mono {l : Array Bool} {i k : Nat} (h : on l k = true) : on (l.setIfInBounds i true) k = true := by
  unfold on at *
  rw [Array.getD_eq_getD_getElem?] at *
  by_cases hk : k < l.size
  · have hk2 : k < (l.setIfInBounds i true).size := by simpa using hk
    rw [Array.getElem?_eq_getElem hk, Option.getD_some] at h
    rw [Array.getElem?_eq_getElem hk2, Option.getD_some, Array.getElem_setIfInBounds]
    split
    · rfl
    · exact h
  · rw [Array.getElem?_eq_none (by omega)] at h; cases h
theorem off {l : Array Bool} {i : Nat} (h : l.getD i true = false) : ¬ on l i = true := by
  unfold on
  rw [Array.getD_eq_getD_getElem?] at *
  by_cases hk : i < l.size
  · rw [Array.getElem?_eq_getElem hk, Option.getD_some] at *; rw [h]; simp
  · rw [Array.getElem?_eq_none (by omega)] at h; cases h
theorem not_ready {md : Region.Mode} {ops : Array Oper} {l : Array Bool} {i : Nat} {o : Oper} (hr : Region.ready md ops l = []) (hz : l.size = ops.size) (ho : ops[i]? = some o) (ha : o.after.all (fun e => !Region.binds md e || on l e.on) = true) : on l i = true := by
  by_cases hk : on l i = true
  · exact hk
  · exfalso
    have hi : i < ops.size := (Array.getElem?_eq_some_iff.1 ho).1
    have : i ∈ Region.ready md ops l := by
      unfold Region.ready
      simp only [List.mem_filter, List.mem_range, Bool.and_eq_true, Bool.not_eq_true']
      refine ⟨hi, ?_, ?_⟩
      · unfold on at hk
        rw [Array.getD_eq_getD_getElem?] at *
        rw [Array.getElem?_eq_getElem (by omega), Option.getD_some] at *
        simpa using hk
      · rw [ho]; exact ha
    rw [hr] at this
    cases this
theorem ready_pre {md : Region.Mode} {ops : Array Oper} {l : Array Bool} {i : Nat} (h : i ∈ Region.ready md ops l) :
    i < ops.size ∧ l.getD i true = false ∧ ∀ o, ops[i]? = some o → o.after.all (fun e => !Region.binds md e || on l e.on) = true := by
  unfold Region.ready at h
  simp only [List.mem_filter, List.mem_range, Bool.and_eq_true, Bool.not_eq_true'] at h
  refine ⟨h.1, h.2.1, fun o ho => ?_⟩
  have := h.2.2
  rw [ho] at this
  exact this
theorem wpAny_inv {P : Program} {md : Region.Mode} {ops : Array Oper} {Q : Exit → Act → World → Prop} (I : Array Bool → Act → World → Prop)
    (hstep : ∀ l a w i, i ∈ Region.ready md ops l → I l a w → wpOp P ops Q i (fun a w => I (l.setIfInBounds i true) a w) a w)
    (hend : ∀ l a w, Region.ready md ops l = [] → I l a w → Q .normal a w) :
    ∀ fuel l a w, l.count false ≤ fuel → I l a w → wpAny P md ops Q fuel l a w := by
  have nil : ∀ l : Array Bool, l.count false = 0 → Region.ready md ops l = [] := by
    intro l h
    rw [List.eq_nil_iff_forall_not_mem]
    intro i hi
    have h1 := (ready_pre hi).2.1
    rw [Array.getD_eq_getD_getElem?] at h1
    by_cases hl : i < l.size
    · rw [Array.getElem?_eq_getElem hl, Option.getD_some] at h1
      have : false ∈ l := h1 ▸ Array.getElem_mem hl
      exact absurd h (Nat.ne_of_gt (Array.count_pos_iff.2 this))
    · rw [Array.getElem?_eq_none (by omega)] at h1; cases h1
  intro fuel
  induction fuel with
  | zero => intro l a w hc hI; exact ⟨nil l (by omega), hend l a w (nil l (by omega)) hI⟩
  | succ n ih =>
    intro l a w hc hI
    refine ⟨fun h => hend l a w h hI, fun i hi => wpOp_mono (fun a' w' h' => ih _ a' w' ?_ h') (hstep l a w i hi hI)⟩
    have h1 := (ready_pre hi).2.1
    rw [Array.getD_eq_getD_getElem?] at h1
    by_cases hl : i < l.size
    · rw [Array.getElem?_eq_getElem hl, Option.getD_some] at h1
      have e : l.setIfInBounds i true = l.set i true hl := by simp [Array.setIfInBounds, hl]
      rw [e, Array.count_set, h1]
      have : 0 < l.count false := Array.count_pos_iff.2 (h1 ▸ Array.getElem_mem hl)
      simp; omega
    · rw [Array.getElem?_eq_none (by omega)] at h1; cases h1
theorem wpOp_step {P : Program} {ops : Array Oper} {Q : Exit → Act → World → Prop} {i : Nat} {o : Oper} {a : Act} {w : World} {K' : Act → World → Prop} (ho : ops[i]? = some o)
    (h : ∀ K : Act → World → Prop, (∀ a w, K' a w → K a w) → if Region.wanted o (yielded ops a.tmps) = true then o.wp P a w K Q else K (a.put o.dst undef) w) : wpOp P ops Q i K' a w := by
  have := h K' (fun _ _ h => h)
  unfold wpOp
  rw [ho]
  show if Region.wanted o (yielded ops a.tmps) = true then _ else _
  split
  · rename_i hw; rw [if_pos hw] at this; exact .inl this
  · rename_i hw; rw [if_neg hw] at this; exact this
theorem wpOp_go {P : Program} {ops : Array Oper} {Q : Exit → Act → World → Prop} {i : Nat} {o : Oper} {a : Act} {w : World} {K' : Act → World → Prop} (ho : ops[i]? = some o) (hg : o.guard = none)
    (h : ∀ K : Act → World → Prop, (∀ a w, K' a w → K a w) → o.wp P a w K Q) : wpOp P ops Q i K' a w :=
  wpOp_step ho fun K hK => by rw [if_pos (by simp [Region.wanted, hg])]; exact h K hK
/-- A slot holds a number, a variable for one, a variable that holds one. -/
def SlotNum (w : World) (u : Value) (q : Cx) : Prop := ∃ A1 A2 A3, u = .agg #[.bool (sn (na q)), .slice A1 (ln (ab (na q))) (ln (ab (na q))), .bool (sn (nb q)), .slice A2 (ln (ab (nb q))) (ln (ab (nb q))), .slice A3 (ln (un q)) (ln (un q))] ∧ Num3 w A1 A2 A3 q
def SlotVar (B : Nat) (w : World) (u : Value) : Prop := ∃ g, u = .pointer (some ⟨g, 0, none⟩) ∧ B ≤ g ∧ g < w.heap.size ∧ (∃ c v1 v2 v3 v4, w.cell? ⟨g, 0, none⟩ = some (.bool c) ∧ w.cell? ⟨g, 1, none⟩ = some v1 ∧ w.cell? ⟨g, 2, none⟩ = some v2 ∧ w.cell? ⟨g, 3, none⟩ = some v3 ∧ w.cell? ⟨g, 4, none⟩ = some v4) ∧ (w.frozen? ⟨g, 0, none⟩ = false ∧ w.frozen? ⟨g, 1, none⟩ = false ∧ w.frozen? ⟨g, 2, none⟩ = false ∧ w.frozen? ⟨g, 3, none⟩ = false ∧ w.frozen? ⟨g, 4, none⟩ = false)
def SlotHas (w : World) (u : Value) (q : Cx) : Prop := ∃ g A1 A2 A3, u = .pointer (some ⟨g, 0, none⟩) ∧ g < w.heap.size ∧ Cells5 w g q A1 A2 A3 ∧ Num3 w A1 A2 A3 q
theorem SlotNum.to {w w' : World} {u : Value} {q : Cx} (h : SlotNum w u q) (hb : Below w.heap.size w w') : SlotNum w' u q := by
  obtain ⟨A1, A2, A3, e, h⟩ := h; exact ⟨A1, A2, A3, e, h.to hb⟩
theorem SlotVar.to {B : Nat} {w w' : World} {u : Value} (h : SlotVar B w u) (hb : Below w.heap.size w w') : SlotVar B w' u := by
  obtain ⟨g, e, h1, h2, ⟨c, v1, v2, v3, v4, c0, c1, c2, c3, c4⟩, f0, f1, f2, f3, f4⟩ := h
  exact ⟨g, e, h1, Nat.lt_of_lt_of_le h2 hb.size, ⟨c, v1, v2, v3, v4, keepc hb c0 h2, keepc hb c1 h2, keepc hb c2 h2, keepc hb c3 h2, keepc hb c4 h2⟩, keepf hb f0 h2, keepf hb f1 h2, keepf hb f2 h2, keepf hb f3 h2, keepf hb f4 h2⟩
theorem SlotHas.to {w w' : World} {u : Value} {q : Cx} (h : SlotHas w u q) (hb : Below w.heap.size w w') : SlotHas w' u q := by
  obtain ⟨g, A1, A2, A3, e, h2, ⟨c0, c1, c2, c3, c4⟩, h3⟩ := h
  exact ⟨g, A1, A2, A3, e, Nat.lt_of_lt_of_le h2 hb.size, ⟨keepc hb c0 h2, keepc hb c1 h2, keepc hb c2 h2, keepc hb c3 h2, keepc hb c4 h2⟩, h3.to hb⟩
theorem SlotVar.new {B : Nat} {w : World} {T : TypeId} (hB : B ≤ w.heap.size) : SlotVar B (w.alloc (.cells #[.bool false, .slice none 0 0, .bool false, .slice none 0 0, .slice none 0 0] T)) (.pointer (some ⟨w.heap.size, 0, none⟩)) :=
  ⟨w.heap.size, rfl, hB, by simp, ⟨false, .slice none 0 0, .bool false, .slice none 0 0, .slice none 0 0, by go_simp, by go_simp, by go_simp, by go_simp, by go_simp⟩, by go_simp, by go_simp, by go_simp, by go_simp, by go_simp⟩
theorem SlotVar.ne {B : Nat} {w : World} {u : Value} (h : SlotVar B w u) : u ≠ .pointer (some ⟨w.heap.size, 0, none⟩) := by
  obtain ⟨g, e, h1, h2, _⟩ := h
  intro e2; rw [e] at e2
  injection e2 with e2; injection e2 with e2; injection e2 with e2; omega
/-- A store into a variable's cells: what stays. -/
theorem SlotNum.set5 {w : World} {u : Value} {q r : Cx} {p : Nat} {A1 A2 A3 : Option Addr} {c : Bool} (h : SlotNum w u r) (k : w.cell? ⟨p, 0, none⟩ = some (.bool c)) : SlotNum (set5 w p q A1 A2 A3) u r := by
  obtain ⟨B1, B2, B3, e, h⟩ := h; exact ⟨B1, B2, B3, e, set5_num3 h k⟩
theorem SlotVar.set5 {B : Nat} {w : World} {u : Value} {q : Cx} {p : Nat} {A1 A2 A3 : Option Addr} (h : SlotVar B w u) (hn : u ≠ .pointer (some ⟨p, 0, none⟩)) : SlotVar B (set5 w p q A1 A2 A3) u := by
  obtain ⟨g, e, h1, h2, ⟨c, v1, v2, v3, v4, c0, c1, c2, c3, c4⟩, f0, f1, f2, f3, f4⟩ := h
  have n : g ≠ p := by rintro rfl; exact hn e
  exact ⟨g, e, h1, by rw [set5_size]; exact h2, ⟨c, v1, v2, v3, v4, set5_cell c0 n, set5_cell c1 n, set5_cell c2 n, set5_cell c3 n, set5_cell c4 n⟩, set5_frozen f0, set5_frozen f1, set5_frozen f2, set5_frozen f3, set5_frozen f4⟩
theorem SlotHas.set5 {w : World} {u : Value} {q r : Cx} {p : Nat} {A1 A2 A3 : Option Addr} {c : Bool} (h : SlotHas w u r) (hn : u ≠ .pointer (some ⟨p, 0, none⟩)) (k : w.cell? ⟨p, 0, none⟩ = some (.bool c)) : SlotHas (set5 w p q A1 A2 A3) u r := by
  obtain ⟨g, B1, B2, B3, e, h2, ⟨c0, c1, c2, c3, c4⟩, h3⟩ := h
  have n : g ≠ p := by rintro rfl; exact hn e
  exact ⟨g, B1, B2, B3, e, by rw [set5_size]; exact h2, ⟨set5_cell c0 n, set5_cell c1 n, set5_cell c2 n, set5_cell c3 n, set5_cell c4 n⟩, set5_num3 h3 k⟩
theorem SlotHas.mk5 {B : Nat} {w : World} {q : Cx} {p : Nat} {A1 A2 A3 : Option Addr} (h : SlotVar B w (.pointer (some ⟨p, 0, none⟩))) (hq : Num3 w A1 A2 A3 q) : SlotHas (Proofs.YtgpmlhpgdalheaaGreat.set5 w p q A1 A2 A3) (.pointer (some ⟨p, 0, none⟩)) q := by
  obtain ⟨g, e, h1, h2, ⟨c, v1, v2, v3, v4, c0, c1, c2, c3, c4⟩, _⟩ := h
  injection e with e; injection e with e; injection e with e
  subst e
  exact ⟨p, A1, A2, A3, rfl, by rw [set5_size]; exact h2, set5_self c0 c1 c2 c3 c4, set5_num3 hq c0⟩
end Go.Proofs.YtgpmlhpgdalheaaGreat

namespace Go.Proofs.YtgpmlhpgdalheaaGreat
open Go.RowKit Pl
set_option linter.unusedVariables false
set_option linter.unusedSimpArgs false
/-- A number in a local variable. -/
def VarAt (w : World) (g : Nat) (q : Cx) (A1 A2 A3 : Option Addr) : Prop := g < w.heap.size ∧ Cells5 w g q A1 A2 A3 ∧ Num3 w A1 A2 A3 q
theorem VarAt.to {w w' : World} {g : Nat} {q : Cx} {A1 A2 A3 : Option Addr} (h : VarAt w g q A1 A2 A3) (hb : Below w.heap.size w w') : VarAt w' g q A1 A2 A3 := by
  obtain ⟨h2, ⟨c0, c1, c2, c3, c4⟩, h3⟩ := h
  exact ⟨Nat.lt_of_lt_of_le h2 hb.size, ⟨keepc hb c0 h2, keepc hb c1 h2, keepc hb c2 h2, keepc hb c3 h2, keepc hb c4 h2⟩, h3.to hb⟩
theorem SlotHas.at {w : World} {u : Value} {q : Cx} (h : SlotHas w u q) : ∃ g A1 A2 A3, u = .pointer (some ⟨g, 0, none⟩) ∧ VarAt w g q A1 A2 A3 := by
  obtain ⟨g, A1, A2, A3, e, h2, h5, h3⟩ := h; exact ⟨g, A1, A2, A3, e, h2, h5, h3⟩
theorem same_to (x y : Cx) (A1 A2 A3 B1 B2 B3 : Option Addr) (w : World) (hx : Num3 w A1 A2 A3 x) (hy : Num3 w B1 B2 B3 y) (hsx : sz 137438953472 x) (hsy : sz 137438953472 y) {b : Bool} (h : decide (x = y) = b) :
    Calls Tryz.prog 48 #[.agg #[.bool (sn (na x)), .slice A1 (ln (ab (na x))) (ln (ab (na x))), .bool (sn (nb x)), .slice A2 (ln (ab (nb x))) (ln (ab (nb x))), .slice A3 (ln (un x)) (ln (un x))], .agg #[.bool (sn (na y)), .slice B1 (ln (ab (na y))) (ln (ab (na y))), .bool (sn (nb y)), .slice B2 (ln (ab (nb y))) (ln (ab (nb y))), .slice B3 (ln (un y)) (ln (un y))]] w (RetBool w b) := h ▸ same_any x y A1 A2 A3 B1 B2 B3 w hx hy hsx hsy
theorem cmp_to (x y : Cx) (A1 A2 A3 B1 B2 B3 : Option Addr) (w : World) (hx : Num3 w A1 A2 A3 x) (hy : Num3 w B1 B2 B3 y) (hsx : sz 137438953472 x) (hsy : sz 137438953472 y) {n : Int} (h : cmpC x y = n) :
    Calls Tryz.prog 50 #[.agg #[.bool (sn (na x)), .slice A1 (ln (ab (na x))) (ln (ab (na x))), .bool (sn (nb x)), .slice A2 (ln (ab (nb x))) (ln (ab (nb x))), .slice A3 (ln (un x)) (ln (un x))], .agg #[.bool (sn (na y)), .slice B1 (ln (ab (na y))) (ln (ab (na y))), .bool (sn (nb y)), .slice B2 (ln (ab (nb y))) (ln (ab (nb y))), .slice B3 (ln (un y)) (ln (un y))]] w (RetInt w n) := h ▸ cmp_num x y A1 A2 A3 B1 B2 B3 w hx hy hsx hsy
theorem side_to (x : Cx) (A1 A2 A3 : Option Addr) (w : World) (hx : Num3 w A1 A2 A3 x) (hsx : sz 137438953472 x) {n : Int} (h : cmpZ (nb x) 0 = n) :
    Calls Tryz.prog 52 #[.agg #[.bool (sn (na x)), .slice A1 (ln (ab (na x))) (ln (ab (na x))), .bool (sn (nb x)), .slice A2 (ln (ab (nb x))) (ln (ab (nb x))), .slice A3 (ln (un x)) (ln (un x))]] w (RetInt w n) := h ▸ side_any x A1 A2 A3 w hx hsx
theorem clear_to (x : Cx) (A1 A2 A3 : Option Addr) (w : World) (hx : Num3 w A1 A2 A3 x) (hsx : sz 1099511627776 x) {b : Bool} (h : (!decide (x = Cx.zero)) = b) :
    Calls Tryz.prog 46 #[.agg #[.bool (sn (na x)), .slice A1 (ln (ab (na x))) (ln (ab (na x))), .bool (sn (nb x)), .slice A2 (ln (ab (nb x))) (ln (ab (nb x))), .slice A3 (ln (un x)) (ln (un x))]] w (RetBool w b) := h ▸ clear_any x A1 A2 A3 w hx hsx
theorem sz_sub {K : Nat} {x y : Cx} (hx : sz K x) (hy : sz K y) : sz (2 * K + 1) (x.sub y) := sz_add hx (sz_neg hy)
theorem sz_im {K : Nat} {x : Cx} (hx : sz K x) : sz K x.imOf := by
  rw [← im_fr]; exact fr_sz (nd_ne0 x) hx.2.1 (by show ln 0 ≤ K; rw [ln_zero]; omega) hx.2.2
theorem sz_norm {K : Nat} {x : Cx} (hx : sz K x) : sz (2 * K + 1) x.norm := by
  rw [← norm_fr]
  have h1 := ab_mul_ln hx.1 hx.1
  have h2 := ab_mul_ln hx.2.1 hx.2.1
  have h3 := ab_add_ln h1 h2
  refine fr_sz (Nat.mul_ne_zero (nd_ne0 x) (nd_ne0 x)) (by omega) (by show ln 0 ≤ _; rw [ln_zero]; omega) ?_
  have := nat_mul_ln hx.2.2 hx.2.2
  omega
theorem sz_int {n : Int} {K : Nat} (h : ln (ab n) ≤ K) (h1 : 1 ≤ K) : sz K (Cx.ofInt n) := by
  obtain ⟨e1, e2, e3⟩ := ofInt_form n
  refine ⟨by rw [e1]; exact h, by rw [e2]; show ln 0 ≤ K; rw [ln_zero]; omega, by rw [e3, ln_one]; exact h1⟩
/-- The order of two rational numbers, as -1, 0, 1. -/
def cmpR (r s : Rat) : Int := if r < s then -1 else if r = s then 0 else 1
theorem cross_lt {a b : Int} {d e : Nat} {r s : Rat} (hd : 0 < d) (he : 0 < e) (h : (a : Rat) = r * (d : Rat)) (k : (b : Rat) = s * (e : Rat)) : (a * (e : Int) < b * (d : Int) ↔ r < s) ∧ (a * (e : Int) = b * (d : Int) ↔ r = s) := by
  have hd' : (0 : Rat) < (d : Rat) := by exact_mod_cast hd
  have he' : (0 : Rat) < (e : Rat) := by exact_mod_cast he
  have p : (0 : Rat) < (d : Rat) * (e : Rat) := Rat.mul_pos hd' he'
  have e1 : ((a * (e : Int) : Int) : Rat) = r * ((d : Rat) * (e : Rat)) := by rw [Rat.intCast_mul, h, Rat.intCast_natCast]; grind
  have e2 : ((b * (d : Int) : Int) : Rat) = s * ((d : Rat) * (e : Rat)) := by rw [Rat.intCast_mul, k, Rat.intCast_natCast]; grind
  generalize (d : Rat) * (e : Rat) = m at *
  generalize a * (e : Int) = u at *
  generalize b * (d : Int) = v at *
  constructor
  · rw [← Rat.intCast_lt_intCast, e1, e2]
    exact Rat.mul_lt_mul_right p
  · rw [← Rat.intCast_inj, e1, e2]
    constructor
    · intro q; have : m ≠ 0 := by grind
      grind
    · rintro rfl; rfl
theorem cmpZ_cross {a b : Int} {d e : Nat} {r s : Rat} (hd : 0 < d) (he : 0 < e) (h : (a : Rat) = r * (d : Rat)) (k : (b : Rat) = s * (e : Rat)) : cmpZ (a * (e : Int)) (b * (d : Int)) = cmpR r s := by
  obtain ⟨h1, h2⟩ := cross_lt hd he h k
  unfold cmpZ cmpR
  by_cases c : r < s
  · rw [if_pos (h1.2 c), if_pos c]
  · rw [if_neg (fun q => c (h1.1 q)), if_neg c]
    by_cases c2 : r = s
    · rw [if_pos (h2.2 c2), if_pos c2]
    · rw [if_neg (fun q => c2 (h2.1 q)), if_neg c2]
theorem cmpC_rat (x y : Cx) : cmpC x y = if x.re = y.re then cmpR x.im y.im else cmpR x.re y.re := by
  have h := (cross_lt (nd_pos x) (nd_pos y) (na_eq x) (na_eq y)).2
  by_cases c : x.re = y.re
  · rw [if_pos c, cmpC_im (h.2 c)]; exact cmpZ_cross (nd_pos x) (nd_pos y) (nb_eq x) (nb_eq y)
  · rw [if_neg c, cmpC_re (fun q => c (h.1 q))]; exact cmpZ_cross (nd_pos x) (nd_pos y) (na_eq x) (na_eq y)
end Go.Proofs.YtgpmlhpgdalheaaGreat

namespace Go.Proofs.YtgpmlhpgdalheaaGreat
open Go.RowKit Pl
set_option linter.unusedVariables false
set_option linter.unusedSimpArgs false
set_option maxHeartbeats 4000000 in
theorem clos2 (w : World) (R : Option Addr) (k gn : Nat) (mn : w.cell? ⟨gn, 0, none⟩ = some (.int .i64 2)) :
    Calls Tryz.prog 172 #[.slice R 2 k, .pointer (some ⟨gn, 0, none⟩)] w fun e w' => e = .returned (.bool false) ∧ w' = w := by
  go_enter Tryz.func172, Tryz.ntmps172
  go_wp2_with fail
  go_ret
  exact ⟨rfl, rfl⟩
set_option maxHeartbeats 4000000 in
theorem index2 (w : World) (b g0 g1 k0 k1 c gn : Nat) (m0 : w.cell? ⟨b, 0, none⟩ = some (.slice (some ⟨g0, 0, none⟩) 2 k0)) (m1 : w.cell? ⟨b, 1, none⟩ = some (.slice (some ⟨g1, 0, none⟩) 2 k1)) (mn : w.cell? ⟨gn, 0, none⟩ = some (.int .i64 2)) :
    Calls Tryz.prog 186 #[.slice (some ⟨b, 0, none⟩) 2 c, .func (.func 172) #[] #[.pointer (some ⟨gn, 0, none⟩)]] w fun e w' => e = .returned (.int .i64 (-1)) ∧ w' = w := by
  go_enter Tryz.func186, Tryz.ntmps186
  go_wp2_with fail
  refine wp_loop_rounds 3 ?_
  rw [rounds_succ]
  go_wp2_with fail
  refine (clos2 w (some ⟨g0, 0, none⟩) k0 gn mn).mono ?_
  rintro e w1 ⟨rfl, rfl⟩
  go_wp2_with fail
  rw [rounds_succ]
  go_wp2_with fail
  refine (clos2 w1 (some ⟨g1, 0, none⟩) k1 gn mn).mono ?_
  rintro e w2 ⟨rfl, rfl⟩
  go_wp2_with fail
  rw [rounds_succ]
  go_wp2_with fail
  go_ret
  exact ⟨rfl, rfl⟩
set_option maxHeartbeats 4000000 in
theorem contains2 (w : World) (b g0 g1 k0 k1 c gn : Nat) (m0 : w.cell? ⟨b, 0, none⟩ = some (.slice (some ⟨g0, 0, none⟩) 2 k0)) (m1 : w.cell? ⟨b, 1, none⟩ = some (.slice (some ⟨g1, 0, none⟩) 2 k1)) (mn : w.cell? ⟨gn, 0, none⟩ = some (.int .i64 2)) :
    Calls Tryz.prog 154 #[.slice (some ⟨b, 0, none⟩) 2 c, .func (.func 172) #[] #[.pointer (some ⟨gn, 0, none⟩)]] w fun e w' => e = .returned (.bool false) ∧ w' = w := by
  go_enter Tryz.func154, Tryz.ntmps154
  go_wp2_with fail
  refine (index2 w b g0 g1 k0 k1 c gn m0 m1 mn).mono ?_
  rintro e w2 ⟨rfl, rfl⟩
  go_wp2_with fail
  go_ret
  exact ⟨rfl, rfl⟩
set_option maxHeartbeats 4000000 in
theorem columns2 (w : World) (b g0 g1 k0 k1 c : Nat) (m0 : w.cell? ⟨b, 0, none⟩ = some (.slice (some ⟨g0, 0, none⟩) 2 k0)) (m1 : w.cell? ⟨b, 1, none⟩ = some (.slice (some ⟨g1, 0, none⟩) 2 k1)) (hb : b < w.heap.size) :
    Calls Tryz.prog 135 #[.slice (some ⟨b, 0, none⟩) 2 c] w fun e w' => e = .returned (.tuple #[.int .i64 2, .bool true]) ∧ Below w.heap.size w w' := by
  go_enter Tryz.func135, Tryz.ntmps135
  go_wp2_with fail
  obtain ⟨X, hX⟩ : ∃ X : World, X = w.alloc (.cells #[.int .i64 2] 3) := ⟨_, rfl⟩
  have hb1 : Below w.heap.size w X := by rw [hX]; exact (Below.refl _ _).alloc (Nat.le_refl _) _
  have mn : X.cell? ⟨w.heap.size, 0, none⟩ = some (.int .i64 2) := by subst hX; go_simp
  replace m0 := keepc hb1 m0 hb
  replace m1 := keepc hb1 m1 hb
  rw [← hX]
  clear hX
  have HB := Lib.hid hb1
  clear hb1
  go_region_held3 (fun w' => w'.cell? ⟨w.heap.size, 0, none⟩ = some (.int .i64 2)) (first | exact mn) (first
    | (go_at_call 154; refine (contains2 _ b g0 g1 k0 k1 c w.heap.size (by exact m0) (by exact m1) (by exact mn)).mono ?_; rintro e w2 ⟨rfl, rfl⟩))
  go_wp2_with fail
  refine bodyPost_ret (v := .tuple #[.int .i64 2, .bool true]) (by simp [results, Tryz.results135, go_sem]) rfl ?_
  exact ⟨rfl, ⟨HB.out.os, HB.out.tape, HB.out.output, HB.out.size, HB.out.block⟩⟩
set_option maxHeartbeats 4000000 in
theorem square2 (w : World) (b g0 g1 k0 k1 c : Nat) (m0 : w.cell? ⟨b, 0, none⟩ = some (.slice (some ⟨g0, 0, none⟩) 2 k0)) (m1 : w.cell? ⟨b, 1, none⟩ = some (.slice (some ⟨g1, 0, none⟩) 2 k1)) (hb : b < w.heap.size) :
    Calls Tryz.prog 151 #[.slice (some ⟨b, 0, none⟩) 2 c] w fun e w' => e = .returned (.bool true) ∧ Below w.heap.size w w' := by
  go_enter Tryz.func151, Tryz.ntmps151
  go_wp2_with fail
  refine (columns2 w b g0 g1 k0 k1 c m0 m1 hb).mono ?_
  rintro e w2 ⟨rfl, hb2⟩
  go_wp2_with fail
  go_ret
  exact ⟨rfl, hb2⟩
end Go.Proofs.YtgpmlhpgdalheaaGreat

namespace Go.Proofs.YtgpmlhpgdalheaaGreat
open Go.RowKit Pl
set_option linter.unusedVariables false
set_option linter.unusedSimpArgs false
/-- The first k and the last k of m cells are exchanged. -/
def revF (f : Nat → Value) (m k t : Nat) : Value := if t < k ∨ (m - k ≤ t ∧ t < m) then f (m - 1 - t) else f t
set_option maxHeartbeats 4000000 in
theorem rev_any (w : World) (g m cap : Nat) (f : Nat → Value) (h : w.rowIs g 5 cap f) (bv : Nat → Int) (hv : ∀ t, t < m → f t = .int .u8 (bv t)) (hm : 0 < m) (hmc : m ≤ cap) (hm2 : m ≤ 140737488355328) :
    Calls Tryz.prog 201 #[.slice (some ⟨g, 0, none⟩) m cap] w fun e w' => e = .returned (.tuple #[]) ∧ w'.rowIs g 5 cap (fun t => if t < m then f (m - 1 - t) else f t) ∧ Below g w w' ∧ w'.heap.size = w.heap.size := by
  obtain ⟨p, hp⟩ : ∃ p, m = p + 1 := ⟨m - 1, by omega⟩
  subst hp
  have HV := Lib.hid hv
  have HM := Lib.hid hm2
  have HC := Lib.hid hmc
  have hp2 : p ≤ 140737488355327 := by omega
  clear hm hm2 hmc hv
  go_enter Tryz.func201, Tryz.ntmps201
  go_wp2_with fail
  go_loopw [2, 3] (fun i j wr => ∃ k l : Nat, i = .int .i64 (k : Int) ∧ j = .int .i64 (l : Int) ∧ Hid (k + l = p) ∧ Hid (k ≤ l + 1) ∧ wr.rowIs g 5 cap (revF f (p + 1) k) ∧ Below g w wr ∧ Hid (wr.heap.size = w.heap.size)) (fun i j _ => (intOf j).toNat + 1 - (intOf i).toNat)
  case atStart => exact ⟨0, p, rfl, by first | (simp [wrap64]; done) | (simp [wrap64]; omega), Lib.hid (by omega), Lib.hid (by omega), h.congr (fun t ht => by unfold revF; rw [if_neg (by omega)]), Below.refl _ _, Lib.hid rfl⟩
  case round =>
    obtain ⟨k, l, rfl, rfl, hkl, hk1, hrow, hb, hsz⟩ := hrel
    clear h
    have HB := Lib.hid hb
    have HR : Hid (wr.rowIs g 5 cap (revF f (p + 1) k)) := Lib.hid hrow
    clear hb
    by_cases hlt : k < l
    · have t1 : decide ((k : Int) < (l : Int)) = true := by rw [decide_eq_true_eq]; omega
      have ck : wr.cell? ⟨g, k, none⟩ = some (.int .u8 (bv k)) := by
        rw [hrow.cell (i := k) (by have := HC.out; have := hkl.out; omega)]
        unfold revF; rw [if_neg (by have := hkl.out; omega), HV.out k (by have := hkl.out; omega)]
      have cl : wr.cell? ⟨g, l, none⟩ = some (.int .u8 (bv l)) := by
        rw [hrow.cell (i := l) (by have := HC.out; have := hkl.out; omega)]
        unfold revF; rw [if_neg (by have := hkl.out; omega), HV.out l (by have := hkl.out; omega)]
      have fk := hrow.frozen k
      have fl := hrow.frozen l
      have b1 : (k : Int) < (p : Int) + 1 := by have := hkl.out; omega
      have b2 : (l : Int) < (p : Int) + 1 := by have := hkl.out; omega
      have b3 : (0 : Int) ≤ (k : Int) := by omega
      have b4 : (0 : Int) ≤ (l : Int) := by omega
      have HT := Lib.hid hlt
      clear hrow hlt
      go_wp2_with fail
      go_region
      obtain ⟨l', hl'⟩ : ∃ l', l = l' + 1 := ⟨l - 1, by have := HT.out; omega⟩
      subst hl'
      have HF : Hid ((((wr.setCell ⟨g, k, none⟩ (.int .u8 (bv (l' + 1)))).setCell ⟨g, l' + 1, none⟩ (.int .u8 (bv k))).drew).rowIs g 5 cap (revF f (p + 1) (k + 1))) := Lib.hid (((HR.out.set k _).set (l' + 1) _).drew.congr (fun t ht => by
        have e1 := hkl.out
        have e2 := HT.out
        unfold revF
        by_cases c1 : t = l' + 1
        · rw [if_pos c1, if_pos (by omega), c1, show p + 1 - 1 - (l' + 1) = k by omega, HV.out k (by omega)]
        · rw [if_neg c1]
          by_cases c2 : t = k
          · rw [if_pos c2, if_pos (by omega), c2, show p + 1 - 1 - k = l' + 1 by omega, HV.out (l' + 1) (by omega)]
          · rw [if_neg c2]
            by_cases c3 : t < k ∨ (p + 1 - k ≤ t ∧ t < p + 1)
            · rw [if_pos c3, if_pos (by omega)]
            · rw [if_neg c3, if_neg (by omega)]))
      have HB2 : Hid (Below g w (((wr.setCell ⟨g, k, none⟩ (.int .u8 (bv (l' + 1)))).setCell ⟨g, l' + 1, none⟩ (.int .u8 (bv k))).drew)) := Lib.hid (by
        have h1 := (HB.out.setCell (p := ⟨g, k, none⟩) (Nat.le_refl g) (.int .u8 (bv (l' + 1)))).setCell (p := ⟨g, l' + 1, none⟩) (Nat.le_refl g) (.int .u8 (bv k))
        exact ⟨h1.os, h1.tape, h1.output, h1.size, h1.block⟩)
      have HS2 : Hid ((((wr.setCell ⟨g, k, none⟩ (.int .u8 (bv (l' + 1)))).setCell ⟨g, l' + 1, none⟩ (.int .u8 (bv k))).drew).heap.size = w.heap.size) := Lib.hid (by have := hsz.out; simpa [World.setCell, World.drew] using this)
      generalize (((wr.setCell ⟨g, k, none⟩ (.int .u8 (bv (l' + 1)))).setCell ⟨g, l' + 1, none⟩ (.int .u8 (bv k))).drew) = X at *
      clear ck cl fk fl b1 b2 b3 b4
      have b5 : k ≤ p := by have := hkl.out; omega
      have b6 : l' ≤ p := by have := hkl.out; omega
      go_wp2_with fail
      go_roundw
      case rel => exact ⟨k + 1, l', by simp, by simp, Lib.hid (by have := hkl.out; omega), Lib.hid (by have := HT.out; omega), HF.out, HB2.out, HS2⟩
      case measure => have := HT.out; simp [intOf]; omega
    · have t1 : decide ((k : Int) < (l : Int)) = false := by rw [decide_eq_false_iff_not]; omega
      have HT := Lib.hid hlt
      clear hrow hlt
      go_wp2_with fail
      go_end0
      refine ⟨rfl, HR.out.congr (fun t ht => ?_), HB.out, hsz.out⟩
      have e1 := hkl.out
      have e2 := HT.out
      have e3 := hk1.out
      unfold revF
      by_cases c : t < p + 1
      · rw [if_pos c]
        by_cases c3 : t < k ∨ (p + 1 - k ≤ t ∧ t < p + 1)
        · rw [if_pos c3]
        · rw [if_neg c3, show p + 1 - 1 - t = t by omega]
      · rw [if_neg c, if_neg (by omega)]
end Go.Proofs.YtgpmlhpgdalheaaGreat

namespace Go.Proofs.YtgpmlhpgdalheaaGreat
open Go.RowKit Pl
set_option linter.unusedVariables false
set_option linter.unusedSimpArgs false
/-- The decimal digits, the lowest one first. -/
def rd (n : Nat) : List Nat := if h : n = 0 then [] else n % 10 :: rd (n / 10)
termination_by n
decreasing_by omega
theorem rd_zero : rd 0 = [] := by rw [rd]; rfl
theorem rd_pos {n : Nat} (h : n ≠ 0) : rd n = n % 10 :: rd (n / 10) := by rw [rd, dif_neg h]
theorem rd_len {k : Nat} : ∀ {n : Nat}, n < 10 ^ k → (rd n).length ≤ k := by
  induction k with
  | zero => intro n h; have : n = 0 := by simpa using h
            subst this; rw [rd_zero]; simp
  | succ k ih =>
    intro n h
    by_cases hn : n = 0
    · subst hn; rw [rd_zero]; simp
    · rw [rd_pos hn, List.length_cons]
      have : n / 10 < 10 ^ k := by rw [Nat.div_lt_iff_lt_mul (by omega)]; rwa [Nat.pow_succ] at h
      have := ih this
      omega
theorem rd_ln (n : Nat) : (rd n).length ≤ 10 * ln n := by
  refine rd_len ?_
  have h := lt_of_ln (Nat.le_refl (ln n))
  rw [Nat.pow_mul]
  exact Nat.lt_of_lt_of_le h (Nat.pow_le_pow_left (by decide) _)
/-- One digit is taken. -/
theorem rd_step {q r m : Nat} (h : q ≠ 0 ∨ r ≠ 0) : rd (q * 10 ^ (m + 1) + r) = r % 10 :: rd (q * 10 ^ m + r / 10) := by
  have h0 : q * 10 ^ (m + 1) + r ≠ 0 := by
    rcases h with h | h
    · have : 0 < q * 10 ^ (m + 1) := Nat.mul_pos (Nat.pos_of_ne_zero h) (Nat.pow_pos (by omega))
      omega
    · omega
  have e : q * 10 ^ (m + 1) + r = 10 * (q * 10 ^ m) + r := by rw [Nat.pow_succ, ← Nat.mul_assoc, Nat.mul_comm]
  rw [rd_pos h0, e, Nat.mul_add_mod, Nat.mul_add_div (by omega)]
/-- The cells of digits. -/
def dcells (l : List Nat) : List Value := l.map fun d => .int .u8 ((48 + d : Nat) : Int)
theorem dcells_app (l : List Nat) (d : Nat) : dcells (l ++ [d]) = dcells l ++ [.int .u8 ((48 + d : Nat) : Int)] := by simp [dcells]
theorem Tryz.info_u8 : (Tryz.prog.info? 5).map (fun i => (i.zero, i.size, i.bytes)) = some (some (.int .u8 0), 1, 1) := by kernel_rfl
theorem Tryz.und_bytes : Tryz.prog.underlying 219 = some (.slice 5) := by kernel_rfl
theorem own_below {w w' : World} {b : Nat} {e : TypeId} {z : Nat} {v : Value} {n : Nat} {xs : List Value} (h : w.ownsRow b e z v n xs) (hb : Below w.heap.size w w') : w'.ownsRow b e z v n xs :=
  h.kept (row := none) ⟨hb.os, hb.tape, hb.output, hb.size, fun k hk _ => hb.block k hk⟩ (Decidable.em _)
theorem nat_grown {W W' : World} {b : Nat} {v : Value} {m n : Nat} {ds : List Nat} {A : Option Addr} (h : Nat32 W A n) (ho : W.ownsRow b 5 1 v m (dcells ds)) (hne : v = .slice none 0 0 ∨ ds ≠ []) (hg : W.grownBy W' v.ownBlock) : Nat32 W' A n := fun hn => by
  obtain ⟨g, e, hl, hc⟩ := h hn
  refine ⟨g, e, Nat.lt_of_lt_of_le hl hg.size, fun j hj => ?_⟩
  refine hg.cell (hc j hj) ?_
  show some g ≠ v.ownBlock
  intro e2
  rcases hne with rfl | hne
  · cases e2
  · have h0 := hc 0 (by omega)
    cases ds with
    | nil => exact hne rfl
    | cons d ds =>
      have := ho.cells e2.symm 0 (.int .u8 ((48 + d : Nat) : Int)) (by simp [dcells])
      rw [show (⟨g, 0, none⟩ : Addr).add 0 = ⟨g, 0, none⟩ by simp [Addr.add], h0] at this
      injection this with this; injection this with this; cases this
/-- The text of a number. -/
def dec (n : Nat) : ByteArray := if n = 0 then ⟨#[48]⟩ else ((rd n).reverse.map fun d => ((48 + d : Nat) : Int)).foldl (fun r n => r.push (UInt8.ofNat n.toNat)) ByteArray.empty
def RetStr (w : World) (s : ByteArray) (e : Ending) (w' : World) : Prop := e = .returned (.string s) ∧ Below w.heap.size w w'
theorem own_row {w : World} {b : Nat} {v : Value} {ds : List Nat} (h : w.ownsRow b 5 1 v ds.length (dcells ds)) (hne : ds ≠ []) :
    ∃ g cap f, v = .slice (some ⟨g, 0, none⟩) ds.length cap ∧ b ≤ g ∧ ds.length ≤ cap ∧ w.rowIs g 5 cap f ∧ ∀ t, t < ds.length → f t = .int .u8 ((48 + ds.getD t 0 : Nat) : Int) := by
  rcases h.2 with ⟨_, h0⟩ | ⟨g, cap, cur, hv, hb, hg, hn, _, hs, ht⟩
  · exact absurd (List.length_eq_zero_iff.1 h0) hne
  · refine ⟨g, cap, fun i => cur.getD i undef, hv, hb, hn, ⟨cur, hg, by omega, fun i hi => ?_⟩, fun t ht2 => ?_⟩
    · show cur[i]? = some (cur.getD i undef)
      rw [Array.getD_eq_getD_getElem?, Array.getElem?_eq_getElem (by omega)]; rfl
    · have e : (cur.toList.take (ds.length * 1))[t]? = (dcells ds)[t]? := by rw [ht]
      rw [List.getElem?_take_of_lt (by omega)] at e
      show cur.getD t undef = _
      rw [Array.getD_eq_getD_getElem?, ← Array.getElem?_toList, e]
      simp [dcells, List.getElem?_eq_getElem ht2]
theorem rev_cells {w : World} {g cap : Nat} {ds : List Nat} {f : Nat → Value} (h : w.rowIs g 5 cap (fun t => if t < ds.length then f (ds.length - 1 - t) else f t)) (hc : ds.length ≤ cap) (hf : ∀ t, t < ds.length → f t = .int .u8 ((48 + ds.getD t 0 : Nat) : Int)) (c : Nat) :
    (convert 219 9 (.slice (some ⟨g, 0, none⟩) ds.length c)).run Tryz.prog w = .ok (.string ((ds.reverse.map fun d => ((48 + d : Nat) : Int)).foldl (fun r n => r.push (UInt8.ofNat n.toNat)) ByteArray.empty)) w := by
  rw [run_convert_bytes_string w 219 9 5 _ _ _ Tryz.und_bytes (by kernel_rfl) (by kernel_rfl)]
  refine run_bytesToString w _ _ _ _ ?_
  have := run_loadCells_list (P := Tryz.prog) (w := w) ⟨g, 0, none⟩ ((ds.reverse.map fun d => ((48 + d : Nat) : Int)).map (Value.int .u8)) ?_
  · simpa using this
  · intro j v hj
    have hlt : j < ds.length := by
      have := (List.getElem?_eq_some_iff.1 hj).1
      simpa using this
    have e : (⟨g, 0, none⟩ : Addr).add j = ⟨g, j, none⟩ := by simp only [Addr.add]; split <;> simp_all
    rw [e, h.cell (i := j) (by omega)]
    simp only [hlt, if_true]
    rw [hf _ (by omega)]
    rw [← hj]
    simp only [List.map_map, List.getElem?_map, List.getElem?_reverse hlt, List.getElem?_eq_getElem (show ds.length - 1 - j < ds.length by omega), Option.map_some, Function.comp]
    congr 3
    simp [List.getElem?_eq_getElem (show ds.length - 1 - j < ds.length by omega)]
set_option maxHeartbeats 4000000 in
theorem digits_more (n : Nat) (A : Option Addr) (w : World) (hx : Nat32 w A n) (hbx : ln n ≤ 1099511627776) (h0 : n ≠ 0) :
    Calls Tryz.prog 187 #[.slice A (ln n) (ln n)] w (RetStr w (dec n)) := by
  obtain ⟨i0, hi, hz0, hz1, hz2⟩ := info_parts Tryz.info_u8
  have HN : Hid ((rd n).length ≤ 10 * ln n) := Lib.hid (rd_ln n)
  have HS : Hid (ln n ≤ 1099511627776) := Lib.hid hbx
  have t0 : decide (ln n = 0) = false := by have := ln_pos h0; rw [decide_eq_false_iff_not]; omega
  have t0' : ((ln n : Int) == 0) = false := by have := ln_pos h0; rw [beq_eq_false_iff_ne]; omega
  clear hbx
  go_enter Tryz.func187, Tryz.ntmps187
  go_wp2_with fail
  go_loopg [0, 3] n (fun m u v wr => ∃ (A : Option Addr) (ds : List Nat), u = .slice A (ln m) (ln m) ∧ Hid (ds ++ rd m = rd n) ∧ Hid (ln m ≤ 1099511627776) ∧ Nat32 wr A m ∧ wr.ownsRow w.heap.size 5 1 v ds.length (dcells ds) ∧ Hid (v = .slice none 0 0 ∨ ds ≠ []) ∧ Below w.heap.size w wr)
  case atStart => exact ⟨A, [], rfl, Lib.hid (by simp), HS, hx, World.ownsRow_nil _ _ _ _, Lib.hid (.inl rfl), Below.refl _ _⟩
  case round =>
    obtain ⟨A', ds, rfl, hD, hL, hA, hown, hnil, hb⟩ := hrel
    clear hx
    by_cases hm0 : gk = 0
    · have t1 : decide (0 < ln gk) = false := by rw [hm0, ln_zero]; rfl
      have hds : ds = rd n := by have := hD.out; rw [hm0, rd_zero] at this; simpa using this
      have hne : ds ≠ [] := by rw [hds, rd_pos h0]; simp
      obtain ⟨g, cap, f, hu, hg, hcap, hrow, hf⟩ := own_row hown hne
      have hpos : 0 < ds.length := by cases ds with | nil => exact absurd rfl hne | cons a l => simp
      have hlen : ds.length ≤ 140737488355328 := by have := HN.out; have := HS.out; rw [hds]; omega
      have HE : Hid (dec n = ((ds.reverse.map fun d => ((48 + d : Nat) : Int)).foldl (fun r n => r.push (UInt8.ofNat n.toNat)) ByteArray.empty)) := Lib.hid (by unfold dec; rw [if_neg h0, hds])
      have HB := Lib.hid hb
      clear hb hown hnil hD hds hA HN hm0
      subst hu
      go_wp2_with fail
      refine (rev_any wr g ds.length cap f (by exact hrow) _ hf hpos hcap hlen).mono ?_
      rintro e w1 ⟨rfl, hr1, hb1, hz1⟩
      have hcv := rev_cells hr1 hcap hf cap
      replace HB := Lib.hid (show Below w.heap.size w w1 from HB.out.trans (hb1.mono hg))
      rw [← HE.out] at hcv
      go_wp2_with fail
      go_ret
      exact ⟨rfl, HB.out⟩
    · have t1 : decide (0 < ln gk) = true := by have := ln_pos hm0; simpa using this
      have HB := Lib.hid hb
      have H0 := Lib.hid hm0
      clear hb hm0
      go_wp2_with fail
      refine (short_any gk 1000000000 A' wr hA (by have := hL.out; omega) (by omega) (by omega)).mono ?_
      rintro e w1 ⟨A1, rfl, h1, hb1⟩
      replace hown := own_below hown hb1
      replace HB := Lib.hid (hstep HB hb1)
      have HQ : Hid (ln (gk / 1000000000) ≤ 1099511627776) := Lib.hid (Nat.le_trans (ln_mono (Nat.div_le_self _ _)) hL.out)
      have HR : Hid (gk % 1000000000 < 10 ^ 9) := Lib.hid (Nat.mod_lt _ (by omega))
      have HD : Hid (ds ++ rd (gk / 1000000000 * 10 ^ 9 + gk % 1000000000) = rd n) := Lib.hid (by have := hD.out; rw [show gk / 1000000000 * 10 ^ 9 + gk % 1000000000 = gk by omega]; exact this)
      have HM : Hid (gk / 1000000000 < gk) := Lib.hid (by have := H0.out; omega)
      clear hb1 hD hA t1
      generalize gk % 1000000000 = r at *
      generalize gk / 1000000000 = q at *
      go_wp2_with fail
      go_loopg [3, 4, 5] 9 (fun m v rs kv wr => ∃ (kk r : Nat) (ds : List Nat), kv = .int .i64 (kk : Int) ∧ rs = .int .u32 (r : Int) ∧ Hid (kk + m = 9) ∧ Hid (r < 10 ^ m) ∧ Hid (ds ++ rd (q * 10 ^ m + r) = rd n) ∧ Nat32 wr A1 q ∧ wr.ownsRow w.heap.size 5 1 v ds.length (dcells ds) ∧ Hid (v = .slice none 0 0 ∨ ds ≠ []) ∧ Below w.heap.size w wr)
      case atStart => exact ⟨0, r, ds, rfl, rfl, Lib.hid rfl, HR, HD, h1, hown, hnil, HB.out⟩
      case round =>
        clear hown hnil HB HR HD h1 ds
        obtain ⟨kk, r, ds, rfl, rfl, hk, hr, hD, hq, hown, hnil, hb⟩ := hrel
        have HB := Lib.hid hb
        have HSn := HS.out
        clear hb
        have hc : gk = 0 ∨ (gk ≠ 0 ∧ q ≠ 0) ∨ (gk ≠ 0 ∧ q = 0 ∧ r ≠ 0) ∨ (gk ≠ 0 ∧ q = 0 ∧ r = 0) := by omega
        rcases hc with c | ⟨c, d⟩ | ⟨c, d, e⟩ | ⟨c, d, e⟩
        · have t2 : decide ((kk : Int) < 9) = false := by rw [decide_eq_false_iff_not]; have := hk.out; omega
          have C := Lib.hid c
          clear c
          go_wp2_with fail
          go_roundg q
          case measure => exact HM.out
          case rel => exact ⟨A1, ds, rfl, Lib.hid (by have h1 := hr.out; rw [C.out] at h1; have h2 := hD.out; rw [C.out] at h2; rw [show q * 10 ^ 0 + r = q by simp at h1; omega] at h2; exact h2), HQ, hq, hown, hnil, HB.out⟩
        · have t2 : decide ((kk : Int) < 9) = true := by rw [decide_eq_true_eq]; have := hk.out; omega
          have t3 : decide (0 < ln q) = true := by have := ln_pos d; simpa using this
          have E : Hid (rd (q * 10 ^ gk + r) = r % 10 :: rd (q * 10 ^ (gk - 1) + r / 10)) := Lib.hid (by have := @rd_step q r (gk - 1) (.inl d); rwa [show gk - 1 + 1 = gk by omega] at this)
          have C := Lib.hid c
          have hlen : ds.length + 1 ≤ 10 * ln n := by
            have e := congrArg List.length hD.out
            rw [E.out, List.length_append, List.length_cons] at e
            have := HN.out; omega
          have HD : Hid (ds ++ [r % 10] ++ rd (q * 10 ^ (gk - 1) + r / 10) = rd n) := Lib.hid (by have := hD.out; rw [E.out] at this; rw [← this]; simp)
          have HR2 : Hid (r / 10 < 10 ^ (gk - 1)) := Lib.hid (by have := hr.out; rw [show gk = gk - 1 + 1 by omega, Nat.pow_succ] at this; omega)
          have HK : Hid (kk + gk = 9) := hk
          have hkk : kk < 9 := by have := hk.out; omega
          have hr9 : r < 4294967296 := by
            have h1 := hr.out
            have h2 : 10 ^ gk ≤ 10 ^ 9 := Nat.pow_le_pow_right (by omega) (by have := HK.out; omega)
            have h3 : (10 : Nat) ^ 9 = 1000000000 := by decide
            omega
          clear hD hr hk E
          go_wp2_with (at_builtin; (refine wpList_append_own _ rfl _ _ 219 rfl w.heap.size 5 i0 (.int .u8 0) 1 1 Tryz.und_bytes hi hz0 hz1 hz2 rfl (by decide) _ _ _ rfl (hown.alloc _) ⟨wr.heap.size, 0, none⟩ 1 1 [_] rfl rfl (cell_one_new _ _ _) (by intro u hu; simp at hu; subst hu; rfl) (by unfold maxLen; omega) (by omega) (by have := HB.out.size; simp; omega) ?_; intro v1 w2 hown1 hgrow1 hnil1))
          replace hgrow1 : (wr.alloc (.cells #[.int .u8 (48 + (r : Int) % 10)] 5)).grownBy w2 u3.ownBlock := hgrow1
          have hq2 := nat_grown (hq.alloc (.cells #[.int .u8 (48 + (r : Int) % 10)] 5)) (hown.alloc (.cells #[.int .u8 (48 + (r : Int) % 10)] 5)) hnil.out hgrow1
          have hb2 : Below w.heap.size w w2 := (HB.out.alloc HB.out.size _).grown hgrow1 (by have := HB.out.size; simp; omega) (fun k h => (hown.lt k h).1)
          go_roundg (gk - 1)
          case measure => have := C.out; omega
          case rel => exact ⟨kk + 1, r / 10, ds ++ [r % 10], by simp, by simp, Lib.hid (by have := HK.out; have := C.out; omega), HR2, HD, hq2, by rw [List.length_append, dcells_app]; exact hown1, Lib.hid (.inr (by simp)), hb2⟩
        · have t2 : decide ((kk : Int) < 9) = true := by rw [decide_eq_true_eq]; have := hk.out; omega
          have t3 : decide (0 < ln q) = false := by rw [d, ln_zero]; rfl
          have t4 : decide (0 < r) = true := by rw [decide_eq_true_eq]; omega
          have t5 : decide (0 < (r : Int)) = true := by rw [decide_eq_true_eq]; omega
          have E : Hid (rd (q * 10 ^ gk + r) = r % 10 :: rd (q * 10 ^ (gk - 1) + r / 10)) := Lib.hid (by have := @rd_step q r (gk - 1) (.inr e); rwa [show gk - 1 + 1 = gk by omega] at this)
          have C := Lib.hid c
          clear d
          have hlen : ds.length + 1 ≤ 10 * ln n := by
            have e := congrArg List.length hD.out
            rw [E.out, List.length_append, List.length_cons] at e
            have := HN.out; omega
          have HD : Hid (ds ++ [r % 10] ++ rd (q * 10 ^ (gk - 1) + r / 10) = rd n) := Lib.hid (by have := hD.out; rw [E.out] at this; rw [← this]; simp)
          have HR2 : Hid (r / 10 < 10 ^ (gk - 1)) := Lib.hid (by have := hr.out; rw [show gk = gk - 1 + 1 by omega, Nat.pow_succ] at this; omega)
          have HK : Hid (kk + gk = 9) := hk
          have hkk : kk < 9 := by have := hk.out; omega
          have hr9 : r < 4294967296 := by
            have h1 := hr.out
            have h2 : 10 ^ gk ≤ 10 ^ 9 := Nat.pow_le_pow_right (by omega) (by have := HK.out; omega)
            have h3 : (10 : Nat) ^ 9 = 1000000000 := by decide
            omega
          clear hD hr hk E
          go_wp2_with (at_builtin; (refine wpList_append_own _ rfl _ _ 219 rfl w.heap.size 5 i0 (.int .u8 0) 1 1 Tryz.und_bytes hi hz0 hz1 hz2 rfl (by decide) _ _ _ rfl (hown.alloc _) ⟨wr.heap.size, 0, none⟩ 1 1 [_] rfl rfl (cell_one_new _ _ _) (by intro u hu; simp at hu; subst hu; rfl) (by unfold maxLen; omega) (by omega) (by have := HB.out.size; simp; omega) ?_; intro v1 w2 hown1 hgrow1 hnil1))
          replace hgrow1 : (wr.alloc (.cells #[.int .u8 (48 + (r : Int) % 10)] 5)).grownBy w2 u3.ownBlock := hgrow1
          have hq2 := nat_grown (hq.alloc (.cells #[.int .u8 (48 + (r : Int) % 10)] 5)) (hown.alloc (.cells #[.int .u8 (48 + (r : Int) % 10)] 5)) hnil.out hgrow1
          have hb2 : Below w.heap.size w w2 := (HB.out.alloc HB.out.size _).grown hgrow1 (by have := HB.out.size; simp; omega) (fun k h => (hown.lt k h).1)
          go_roundg (gk - 1)
          case measure => have := C.out; omega
          case rel => exact ⟨kk + 1, r / 10, ds ++ [r % 10], by simp, by simp, Lib.hid (by have := HK.out; have := C.out; omega), HR2, HD, hq2, by rw [List.length_append, dcells_app]; exact hown1, Lib.hid (.inr (by simp)), hb2⟩
        · have t2 : decide ((kk : Int) < 9) = true := by rw [decide_eq_true_eq]; have := hk.out; omega
          have t3 : decide (0 < ln q) = false := by rw [d, ln_zero]; rfl
          have t4 : decide (0 < r) = false := by rw [e]; rfl
          have t5 : decide (0 < (r : Int)) = false := by rw [e]; rfl
          have D := Lib.hid d
          have E := Lib.hid e
          clear c d e
          go_wp2_with fail
          go_roundg q
          case measure => exact HM.out
          case rel => exact ⟨A1, ds, rfl, Lib.hid (by have h2 := hD.out; rw [D.out, E.out] at h2; rw [D.out]; simpa using h2), HQ, hq, hown, hnil, HB.out⟩
theorem digits_zero (A : Option Addr) (w : World) : Calls Tryz.prog 187 #[.slice A 0 0] w (RetStr w (dec 0)) := by
  go_enter Tryz.func187, Tryz.ntmps187
  go_wp2_with fail
  go_ret
  exact ⟨rfl, Below.refl _ _⟩
/-- 'x.digits()'. -/
theorem digits_any (n : Nat) (A : Option Addr) (w : World) (hx : Nat32 w A n) (hbx : ln n ≤ 1099511627776) :
    Calls Tryz.prog 187 #[.slice A (ln n) (ln n)] w (RetStr w (dec n)) := by
  by_cases h : n = 0
  · subst h; rw [ln_zero]; exact digits_zero A w
  · exact digits_more n A w hx hbx h
end Go.Proofs.YtgpmlhpgdalheaaGreat

namespace Go.Proofs.YtgpmlhpgdalheaaGreat
open Go.RowKit Pl
set_option linter.unusedVariables false
set_option linter.unusedSimpArgs false
theorem Tryz.info_num : (Tryz.prog.info? 30).map (fun i => (i.zero, i.size, i.bytes)) = some (some (.agg #[.bool false, .slice none 0 0, .bool false, .slice none 0 0, .slice none 0 0]), 5, 88) := by kernel_rfl
theorem Tryz.und_nums : Tryz.prog.underlying 54 = some (.slice 30) := by kernel_rfl
set_option maxRecDepth 100000 in
set_option maxHeartbeats 1000000 in
theorem clone_any (w : World) (g m k : Nat) (xs : List Value) (hl : xs.length = m * 5) (hc : ∀ j u, xs[j]? = some u → w.cell? ⟨g, j, none⟩ = some u) (h1 : ∀ u ∈ xs, u.oneCell' = true) (hm : m * 88 ≤ 140737488355328) :
    Calls Tryz.prog 185 #[.slice (some ⟨g, 0, none⟩) m k] w fun e w' => ∃ v, e = .returned v ∧ w'.ownsRow w.heap.size 30 5 v m xs ∧ v ≠ .slice none 0 0 ∧ Below w.heap.size w w' := by
  obtain ⟨i0, hi, hz0, hz1, hz2⟩ := info_parts Tryz.info_num
  have hg : ∀ j u, xs[j]? = some u → g < w.heap.size := fun j u h => World.block_lt_of_cell? w ⟨g, j, none⟩ (hc j u h)
  have HC := Lib.hid hc
  have HL := Lib.hid hl
  have HG := Lib.hid hg
  have H1 := Lib.hid h1
  have HM := Lib.hid hm
  clear hc hg h1 hl hm
  have heq : ∀ w, (binOp .eql 54 (.slice (some ⟨g, 0, none⟩) m k) (.slice none 0 0)).run Tryz.prog w = .ok (.bool false) w := fun w => by kernel_rfl
  go_enter Tryz.func185, Tryz.ntmps185
  go_wp2_with (at_builtin; go_loud (refine wpList_append_own _ rfl _ _ 54 rfl w.heap.size 30 i0 (.agg #[.bool false, .slice none 0 0, .bool false, .slice none 0 0, .slice none 0 0]) 5 88 Tryz.und_nums hi hz0 hz1 hz2 rfl (by decide) _ 0 [] rfl (World.ownsRow_made w #[] 0 (Nat.le_refl _) (by unfold maxLen; omega) rfl) ⟨g, 0, none⟩ m k xs rfl HL.out (fun j u h => by rw [show (⟨g, 0, none⟩ : Addr).add j = ⟨g, j, none⟩ by simp only [Addr.add]; split <;> simp_all]; exact keepc ((Below.refl w.heap.size w).alloc (Nat.le_refl _) _) (HC.out j u h) (HG.out j u h)) H1.out (by have := HM.out; unfold maxLen; omega) (by have := HM.out; omega) (by simp) ?_; intro v1 w2 hown1 hgrow1 hnil1))
  go_ret
  have hn : v1 ≠ .slice none 0 0 := fun h => by have := (hnil1.1 h).1; cases this
  refine ⟨v1, rfl, ?_, hn, ?_⟩
  · have := hown1; rw [Nat.zero_add, List.nil_append] at this; exact this
  · exact ((Below.refl w.heap.size w).alloc (Nat.le_refl _) _).grown hgrow1 (by simp) (fun k h => by cases h; exact Nat.le_refl _)
theorem own_set {w : World} {b : Nat} {e : TypeId} {z n : Nat} {v u : Value} {xs : List Value} {p : Addr} (h : w.ownsRow b e z v n xs) (hp : p.block < b) : (w.setCell p u).ownsRow b e z v n xs :=
  h.kept (row := some p.block) ⟨rfl, rfl, rfl, by simp [World.setCell], fun k hk hne => Below.heap_setCell _ _ _ _ (fun e => hne (by rw [e]))⟩ (.inr (fun e => by have := (h.lt _ e).1; omega))
set_option maxRecDepth 100000 in
set_option maxHeartbeats 4000000 in
theorem copied2 (w : World) (b g0 g1 k0 k1 c : Nat) (xs0 xs1 : List Value) (m0 : w.cell? ⟨b, 0, none⟩ = some (.slice (some ⟨g0, 0, none⟩) 2 k0)) (m1 : w.cell? ⟨b, 1, none⟩ = some (.slice (some ⟨g1, 0, none⟩) 2 k1)) (hb : b < w.heap.size)
    (l0 : xs0.length = 2 * 5) (l1 : xs1.length = 2 * 5) (x0 : ∀ j u, xs0[j]? = some u → w.cell? ⟨g0, j, none⟩ = some u) (x1 : ∀ j u, xs1[j]? = some u → w.cell? ⟨g1, j, none⟩ = some u) (o0 : ∀ u ∈ xs0, u.oneCell' = true) (o1 : ∀ u ∈ xs1, u.oneCell' = true) (hg0 : g0 < w.heap.size) (hg1 : g1 < w.heap.size) :
    Calls Tryz.prog 152 #[.slice (some ⟨b, 0, none⟩) 2 c, .slice none 0 0] w fun e w' => ∃ p r0 r1 a0 a1, e = .returned (.slice (some ⟨p, 0, none⟩) 2 2) ∧ w'.cell? ⟨p, 0, none⟩ = some (.slice (some ⟨r0, 0, none⟩) 2 a0) ∧ w'.cell? ⟨p, 1, none⟩ = some (.slice (some ⟨r1, 0, none⟩) 2 a1) ∧
      w'.ownsRow (p + 1) 30 5 (.slice (some ⟨r0, 0, none⟩) 2 a0) 2 xs0 ∧ w'.ownsRow (p + 1) 30 5 (.slice (some ⟨r1, 0, none⟩) 2 a1) 2 xs1 ∧ r0 ≠ r1 ∧ w.heap.size ≤ p ∧ p < w'.heap.size ∧ w'.frozen? ⟨p, 0, none⟩ = false ∧ w'.frozen? ⟨p, 1, none⟩ = false ∧ Below w.heap.size w w' := by
  have hmk : ∀ w : World, (Instr.makeSlice 106 (.int .i64 2) (.int .i64 2)).run Tryz.prog w = .ok (.slice (some ⟨w.heap.size, 0, none⟩) 2 2) (w.alloc (.cells #[.slice none 0 0, .slice none 0 0] 54)) := fun _ => by kernel_rfl
  have L0 := Lib.hid l0
  have L1 := Lib.hid l1
  have X0 := Lib.hid x0
  have X1 := Lib.hid x1
  have O0 := Lib.hid o0
  have O1 := Lib.hid o1
  clear l0 l1 x0 x1 o0 o1
  go_enter Tryz.func152, Tryz.ntmps152
  go_wp2_with fail
  obtain ⟨W, hW⟩ : ∃ X : World, X = w.alloc (.cells #[.slice none 0 0, .slice none 0 0] 54) := ⟨_, rfl⟩
  rw [← hW]
  have HW : Hid (Below w.heap.size w W) := by rw [hW]; exact Lib.hid ((Below.refl _ _).alloc (Nat.le_refl _) _)
  replace m0 := keepc HW.out m0 hb
  replace m1 := keepc HW.out m1 hb
  have p0 : W.cell? ⟨w.heap.size, 0, none⟩ = some (.slice none 0 0) := by subst hW; go_simp
  have p1 : W.cell? ⟨w.heap.size, 1, none⟩ = some (.slice none 0 0) := by subst hW; go_simp
  have f0 : W.frozen? ⟨w.heap.size, 0, none⟩ = false := by subst hW; go_simp
  have f1 : W.frozen? ⟨w.heap.size, 1, none⟩ = false := by subst hW; go_simp
  have hp : w.heap.size < W.heap.size := by rw [hW]; simp
  have hz : W.heap.size = w.heap.size + 1 := by rw [hW]; simp
  clear hW hmk
  have hbp : b ≠ w.heap.size := by omega
  refine wp_loop_rounds 3 ?_
  rw [rounds_succ]
  go_wp2_with fail
  refine (clone_any W g0 2 k0 xs0 L0.out (fun j u h => keepc HW.out (X0.out j u h) hg0) O0.out (by omega)).mono ?_
  rintro e w1 ⟨v0, rfl, hv0, hn0, hb1⟩
  obtain ⟨r0, a0, rfl, hr0, hr0l⟩ := hv0.form (by omega)
  rw [hz] at hv0 hr0
  replace m0 := keepc hb1 m0 (by omega)
  replace m1 := keepc hb1 m1 (by omega)
  replace p0 := keepc hb1 p0 hp
  replace p1 := keepc hb1 p1 hp
  replace f0 := keepf hb1 f0 hp
  replace f1 := keepf hb1 f1 hp
  replace hp := Nat.lt_of_lt_of_le hp hb1.size
  replace HW := Lib.hid (hstep HW hb1)
  have hv0' := Lib.hid hv0
  clear hb1 hz hn0 hv0
  go_wp2_with fail
  obtain ⟨Y, hY⟩ : ∃ Y : World, Y = w1.setCell ⟨w.heap.size, 0, none⟩ (.slice (some ⟨r0, 0, none⟩) 2 a0) := ⟨_, rfl⟩
  rw [← hY]
  replace p0 := cell_self (u := .slice (some ⟨r0, 0, none⟩) 2 a0) p0
  replace p1 := keepo (R := w.heap.size) (j := 0) (u := .slice (some ⟨r0, 0, none⟩) 2 a0) p1 (.inr (by omega))
  replace f0 := keepof (R := w.heap.size) (j := 0) (u := .slice (some ⟨r0, 0, none⟩) 2 a0) f0
  replace f1 := keepof (R := w.heap.size) (j := 0) (u := .slice (some ⟨r0, 0, none⟩) 2 a0) f1
  replace m0 := keepo (R := w.heap.size) (j := 0) (u := .slice (some ⟨r0, 0, none⟩) 2 a0) m0 (.inl hbp)
  replace m1 := keepo (R := w.heap.size) (j := 0) (u := .slice (some ⟨r0, 0, none⟩) 2 a0) m1 (.inl hbp)
  rw [← hY] at p0 p1 f0 f1 m0 m1
  have HY : Hid (Below w.heap.size w Y) := by rw [hY]; exact Lib.hid (HW.out.setCell (by exact Nat.le_refl _) _)
  have hown0 : Hid (Y.ownsRow (w.heap.size + 1) 30 5 (.slice (some ⟨r0, 0, none⟩) 2 a0) 2 xs0) := by rw [hY]; exact Lib.hid (own_set hv0'.out (by show w.heap.size < _; omega))
  have hyz : Y.heap.size = w1.heap.size := by rw [hY]; simp [World.setCell]
  replace hp : w.heap.size < Y.heap.size := by omega
  have hr0l2 : r0 < Y.heap.size := by omega
  clear hY HW hv0' hr0l hyz
  refine wp_loop_rounds 1 ?_
  rw [rounds_succ]
  go_wp2_with fail
  rw [rounds_succ]
  go_wp2_with fail
  refine (clone_any Y g1 2 k1 xs1 L1.out (fun j u h => keepc HY.out (X1.out j u h) hg1) O1.out (by omega)).mono ?_
  rintro e w2 ⟨v1, rfl, hv1, hn1, hb2⟩
  obtain ⟨r1, a1, rfl, hr1, hr1l⟩ := hv1.form (by omega)
  replace m0 := keepc hb2 m0 (by omega)
  replace m1 := keepc hb2 m1 (by omega)
  replace p0 := keepc hb2 p0 hp
  replace p1 := keepc hb2 p1 hp
  replace f0 := keepf hb2 f0 hp
  replace f1 := keepf hb2 f1 hp
  replace hown0 := Lib.hid (own_below hown0.out hb2)
  have hne : Hid (r0 ≠ r1) := Lib.hid (by omega)
  have hv1' : Hid (w2.ownsRow (w.heap.size + 1) 30 5 (.slice (some ⟨r1, 0, none⟩) 2 a1) 2 xs1) := Lib.hid ⟨hv1.1, by
    rcases hv1.2 with h | ⟨g, cap, cur, e, h1, h2⟩
    · exact .inl h
    · exact .inr ⟨g, cap, cur, e, by omega, h2⟩⟩
  replace hp := Nat.lt_of_lt_of_le hp hb2.size
  replace HY := Lib.hid (hstep HY hb2)
  clear hb2 hn1 hv1
  go_wp2_with fail
  obtain ⟨Z, hZ⟩ : ∃ Y : World, Y = w2.setCell ⟨w.heap.size, 1, none⟩ (.slice (some ⟨r1, 0, none⟩) 2 a1) := ⟨_, rfl⟩
  rw [← hZ]
  replace p1 := cell_self (u := .slice (some ⟨r1, 0, none⟩) 2 a1) p1
  replace p0 := keepo (R := w.heap.size) (j := 1) (u := .slice (some ⟨r1, 0, none⟩) 2 a1) p0 (.inr (by omega))
  replace f0 := keepof (R := w.heap.size) (j := 1) (u := .slice (some ⟨r1, 0, none⟩) 2 a1) f0
  replace f1 := keepof (R := w.heap.size) (j := 1) (u := .slice (some ⟨r1, 0, none⟩) 2 a1) f1
  rw [← hZ] at p0 p1 f0 f1
  have HZ : Hid (Below w.heap.size w Z) := by rw [hZ]; exact Lib.hid (HY.out.setCell (by exact Nat.le_refl _) _)
  replace hown0 : Hid (Z.ownsRow (w.heap.size + 1) 30 5 (.slice (some ⟨r0, 0, none⟩) 2 a0) 2 xs0) := by rw [hZ]; exact Lib.hid (own_set hown0.out (by show w.heap.size < _; omega))
  have hown1 : Hid (Z.ownsRow (w.heap.size + 1) 30 5 (.slice (some ⟨r1, 0, none⟩) 2 a1) 2 xs1) := by rw [hZ]; exact Lib.hid (own_set hv1'.out (by show w.heap.size < _; omega))
  have hzl : w.heap.size < Z.heap.size := by rw [hZ]; simpa [World.setCell] using hp
  clear hZ HY hv1' m0 m1
  refine wp_loop_rounds 1 ?_
  rw [rounds_succ]
  go_wp2_with fail
  rw [rounds_succ]
  go_wp2_with fail
  go_ret
  exact ⟨w.heap.size, r0, r1, a0, a1, rfl, p0, p1, hown0.out, hown1.out, hne.out, Nat.le_refl _, hzl, f0, f1, HZ.out⟩
end Go.Proofs.YtgpmlhpgdalheaaGreat

namespace Go.Proofs.YtgpmlhpgdalheaaGreat
open Go.RowKit Pl
set_option linter.unusedVariables false
set_option linter.unusedSimpArgs false
theorem fold_size (l : List Int) : ∀ s : ByteArray, (l.foldl (fun r n => r.push (UInt8.ofNat n.toNat)) s).size = s.size + l.length := by
  induction l with
  | nil => intro s; simp
  | cons a l ih => intro s; rw [List.foldl_cons, ih]; simp [ByteArray.size_push]; omega
theorem dec_size (n : Nat) : (dec n).size ≤ 10 * ln n + 1 := by
  unfold dec
  by_cases h : n = 0
  · rw [if_pos h]; show 1 ≤ _; omega
  · rw [if_neg h, fold_size]
    have := rd_ln n
    simp
    omega
/-- The text of a real number in lowest terms. -/
def sgT (q : Cx) : ByteArray := if sn (na q) = true then ⟨#[45]⟩ ++ dec (ab (na q)) else dec (ab (na q))
def partT (q : Cx) : ByteArray := if un q = 0 then sgT q else sgT q ++ (⟨#[47]⟩ ++ dec (un q))
theorem partT_size {q : Cx} (h : sz 1099511627776 q) : (partT q).size ≤ 70368744177664 := by
  have h1 := dec_size (ab (na q))
  have h2 := dec_size (un q)
  have h3 := un_ln q
  have h4 := h.1
  have h5 := h.2.2
  unfold partT sgT
  split <;> split <;> (try simp only [ByteArray.size_append]) <;> (try rw [show (ByteArray.mk #[45]).size = 1 from rfl]) <;> (try rw [show (ByteArray.mk #[47]).size = 1 from rfl]) <;> omega
set_option maxHeartbeats 4000000 in
theorem part_any (a : Int) (d : Nat) (A D : Option Addr) (w : World) (hx : Nat32 w A (ab a)) (hd : Nat32 w D d) (hbx : ln (ab a) ≤ 549755813888) (hbd : ln d ≤ 549755813888) (hd0 : d ≠ 0) :
    Calls Tryz.prog 156 #[.agg #[.bool (sn (a)), .slice A (ln (ab (a))) (ln (ab (a)))], .slice D (ln d) (ln d)] w (RetStr w (partT (fr a 0 d))) := by
  have HZ : Hid (sz 549755813888 (fr a 0 d)) := Lib.hid (fr_sz hd0 hbx (by show ln 0 ≤ _; rw [ln_zero]; omega) hbd)
  have HA := Lib.hid hbx
  have HD := Lib.hid hbd
  have H0 := Lib.hid hd0
  clear hbx hbd hd0
  go_enter Tryz.func156, Tryz.ntmps156
  go_wp2_with fail
  obtain ⟨W, hW⟩ : ∃ W : World, W = (w.alloc (.cells #[.bool (sn (a)), .slice A (ln (ab (a))) (ln (ab (a)))] 28)) := ⟨_, rfl⟩
  have s0_0 : W.cell? ⟨w.heap.size, 0, none⟩ = some (.bool (sn (a))) := by subst hW; go_simp
  have s0_1 : W.cell? ⟨w.heap.size, 1, none⟩ = some (.slice A (ln (ab (a))) (ln (ab (a)))) := by subst hW; go_simp
  have HW : Below w.heap.size w W := by subst hW; exact ((Below.refl w.heap.size w).alloc (Nat.le_refl _) _)
  have l0 : w.heap.size < W.heap.size := by subst hW; simp
  replace hx := hx.to HW
  replace hd := hd.to HW
  rw [← hW]
  clear hW
  replace HW := Lib.hid HW
  refine (over0_any a d A D _ (by exact hx) (by exact hd) (by have := HA.out; omega) (by have := HD.out; omega) H0.out).mono ?_
  rintro e w1 ⟨Z1, Z2, Z3, rfl, h1, hb1⟩
  replace s0_0 := keepc hb1 s0_0 l0
  replace s0_1 := keepc hb1 s0_1 l0
  replace l0 := Nat.lt_of_lt_of_le l0 hb1.size
  replace hx := hx.to hb1
  replace hd := hd.to hb1
  replace HW := Lib.hid (hstep HW hb1)
  clear hb1
  go_wp2_with fail
  obtain ⟨X, hX⟩ : ∃ X : World, X = w1.alloc (.cells #[.bool (sn (na (fr a 0 d))), .slice Z1 (ln (ab (na (fr a 0 d)))) (ln (ab (na (fr a 0 d)))), .bool (sn (nb (fr a 0 d))), .slice Z2 (ln (ab (nb (fr a 0 d)))) (ln (ab (nb (fr a 0 d)))), .slice Z3 (ln (un (fr a 0 d))) (ln (un (fr a 0 d)))] 30) := ⟨_, rfl⟩
  rw [← hX]
  have b2 : Below w1.heap.size w1 X := by rw [hX]; exact (Below.refl _ _).alloc (Nat.le_refl _) _
  have V : VarAt X w1.heap.size (fr a 0 d) Z1 Z2 Z3 := ⟨by rw [hX]; simp, ⟨by subst hX; go_simp, by subst hX; go_simp, by subst hX; go_simp, by subst hX; go_simp, by subst hX; go_simp⟩, h1.to b2⟩
  replace HW := Lib.hid (hstep HW b2)
  clear hX b2 hx hd h1 s0_0 s0_1 l0
  generalize w1.heap.size = g at *
  generalize fr a 0 d = q at *
  have HQ : Hid (ln (ab (na q)) ≤ 1099511627776 ∧ ln (un q) ≤ 1099511627776) := Lib.hid ⟨Nat.le_trans HZ.out.1 (by omega), Nat.le_trans (un_ln q) (Nat.le_trans HZ.out.2.2 (by omega))⟩
  have HC : Hid ((sn (na q) = true ∨ sn (na q) = false) ∧ (un q ≠ 0 ∨ un q = 0)) := Lib.hid ⟨by cases sn (na q) <;> simp, by omega⟩
  rcases HC.out with ⟨t1 | t1, t2 | t2⟩
  · have T1 := Lib.hid t1; have T2 := Lib.hid t2; clear t1 t2
    refine (digits_any (ab (na q)) Z1 _ (by exact V.2.2.1) HQ.out.1).mono ?_
    rintro e w2 ⟨rfl, hb2⟩; replace V := V.to hb2; replace HW := Lib.hid (hstep HW hb2); clear hb2
    have z1 : (dec (ab (na q))).size ≤ 17592186044416 := by have := dec_size (ab (na q)); have := HQ.out.1; omega
    have z2 : (dec (un q)).size ≤ 17592186044416 := by have := dec_size (un q); have := HQ.out.2; omega
    obtain ⟨c0, c1, c2, c3, c4⟩ := V.2.1
    rw [T1.out] at c0
    have t2 : decide (0 < ln (un q)) = true := by have := ln_pos T2.out; simpa using this
    go_wp2_with fail
    clear c0 c1 c2 c3 c4
    refine (digits_any (un q) Z3 _ (by exact V.2.2.2.2) HQ.out.2).mono ?_
    rintro e w3 ⟨rfl, hb3⟩; replace HW := Lib.hid (hstep HW hb3); clear hb3
    go_wp2_with fail
    have E : Hid (partT q = ⟨#[45]⟩ ++ dec (ab (na q)) ++ (⟨#[47]⟩ ++ dec (un q))) := Lib.hid (by unfold partT sgT; simp [T1.out, T2.out, ByteArray.append_assoc])
    rw [E.out]
    go_ret
    exact ⟨by first | rfl | simp [ByteArray.append_assoc], HW.out⟩
  · have T1 := Lib.hid t1; have T2 := Lib.hid t2; clear t1 t2
    refine (digits_any (ab (na q)) Z1 _ (by exact V.2.2.1) HQ.out.1).mono ?_
    rintro e w2 ⟨rfl, hb2⟩; replace V := V.to hb2; replace HW := Lib.hid (hstep HW hb2); clear hb2
    have z1 : (dec (ab (na q))).size ≤ 17592186044416 := by have := dec_size (ab (na q)); have := HQ.out.1; omega
    have z2 : (dec (un q)).size ≤ 17592186044416 := by have := dec_size (un q); have := HQ.out.2; omega
    obtain ⟨c0, c1, c2, c3, c4⟩ := V.2.1
    rw [T1.out] at c0
    have t2 : decide (0 < ln (un q)) = false := by rw [T2.out, ln_zero]; rfl
    go_wp2_with fail
    have E : Hid (partT q = ⟨#[45]⟩ ++ dec (ab (na q))) := Lib.hid (by unfold partT sgT; simp [T1.out, T2.out, ByteArray.append_assoc])
    rw [E.out]
    go_ret
    exact ⟨by first | rfl | simp [ByteArray.append_assoc], HW.out⟩
  · have T1 := Lib.hid t1; have T2 := Lib.hid t2; clear t1 t2
    refine (digits_any (ab (na q)) Z1 _ (by exact V.2.2.1) HQ.out.1).mono ?_
    rintro e w2 ⟨rfl, hb2⟩; replace V := V.to hb2; replace HW := Lib.hid (hstep HW hb2); clear hb2
    have z1 : (dec (ab (na q))).size ≤ 17592186044416 := by have := dec_size (ab (na q)); have := HQ.out.1; omega
    have z2 : (dec (un q)).size ≤ 17592186044416 := by have := dec_size (un q); have := HQ.out.2; omega
    obtain ⟨c0, c1, c2, c3, c4⟩ := V.2.1
    rw [T1.out] at c0
    have t2 : decide (0 < ln (un q)) = true := by have := ln_pos T2.out; simpa using this
    go_wp2_with fail
    clear c0 c1 c2 c3 c4
    refine (digits_any (un q) Z3 _ (by exact V.2.2.2.2) HQ.out.2).mono ?_
    rintro e w3 ⟨rfl, hb3⟩; replace HW := Lib.hid (hstep HW hb3); clear hb3
    go_wp2_with fail
    have E : Hid (partT q = dec (ab (na q)) ++ (⟨#[47]⟩ ++ dec (un q))) := Lib.hid (by unfold partT sgT; simp [T1.out, T2.out, ByteArray.append_assoc])
    rw [E.out]
    go_ret
    exact ⟨by first | rfl | simp [ByteArray.append_assoc], HW.out⟩
  · have T1 := Lib.hid t1; have T2 := Lib.hid t2; clear t1 t2
    refine (digits_any (ab (na q)) Z1 _ (by exact V.2.2.1) HQ.out.1).mono ?_
    rintro e w2 ⟨rfl, hb2⟩; replace V := V.to hb2; replace HW := Lib.hid (hstep HW hb2); clear hb2
    have z1 : (dec (ab (na q))).size ≤ 17592186044416 := by have := dec_size (ab (na q)); have := HQ.out.1; omega
    have z2 : (dec (un q)).size ≤ 17592186044416 := by have := dec_size (un q); have := HQ.out.2; omega
    obtain ⟨c0, c1, c2, c3, c4⟩ := V.2.1
    rw [T1.out] at c0
    have t2 : decide (0 < ln (un q)) = false := by rw [T2.out, ln_zero]; rfl
    go_wp2_with fail
    have E : Hid (partT q = dec (ab (na q))) := Lib.hid (by unfold partT sgT; simp [T1.out, T2.out, ByteArray.append_assoc])
    rw [E.out]
    go_ret
    exact ⟨by first | rfl | simp [ByteArray.append_assoc], HW.out⟩
theorem real_to (x : Cx) (A1 A2 A3 : Option Addr) (w : World) (hx : Num3 w A1 A2 A3 x) {b : Bool} (h : decide (nb x = 0) = b) :
    Calls Tryz.prog 54 #[.agg #[.bool (sn (na x)), .slice A1 (ln (ab (na x))) (ln (ab (na x))), .bool (sn (nb x)), .slice A2 (ln (ab (nb x))) (ln (ab (nb x))), .slice A3 (ln (un x)) (ln (un x))]] w (RetBool w b) := h ▸ real_any x A1 A2 A3 w hx
/-- The text of a number. -/
def imT (x : Cx) : ByteArray := partT (fr (nb x) 0 (nd x)) ++ ⟨#[105]⟩
def textT (x : Cx) : ByteArray := if nb x = 0 then partT (fr (na x) 0 (nd x)) else if na x = 0 then imT x else partT (fr (na x) 0 (nd x)) ++ (if sn (nb x) = true then imT x else ⟨#[43]⟩ ++ imT x)
set_option maxHeartbeats 4000000 in
theorem text_real (x : Cx) (A1 A2 A3 : Option Addr) (w : World) (hx : Num3 w A1 A2 A3 x) (hs : sz 274877906944 x) (h : nb x = 0) :
    Calls Tryz.prog 95 #[.agg #[.bool (sn (na x)), .slice A1 (ln (ab (na x))) (ln (ab (na x))), .bool (sn (nb x)), .slice A2 (ln (ab (nb x))) (ln (ab (nb x))), .slice A3 (ln (un x)) (ln (un x))]] w (RetStr w (textT x)) := by
  have HS : Hid (sz 274877906944 x) := Lib.hid hs
  have HT : Hid (textT x = partT (fr (na x) 0 (nd x))) := Lib.hid (by unfold textT; simp [h])
  have t1 : Hid (decide (nb x = 0) = true) := Lib.hid (decide_eq_true h)
  have zr : (partT (fr (na x) 0 (nd x))).size ≤ 70368744177664 := partT_size (fr_sz (nd_ne0 x) (Nat.le_trans hs.1 (by omega)) (by show ln 0 ≤ _; rw [ln_zero]; omega) (Nat.le_trans hs.2.2 (by omega)))
  have zi : (partT (fr (nb x) 0 (nd x))).size ≤ 70368744177664 := partT_size (fr_sz (nd_ne0 x) (Nat.le_trans hs.2.1 (by omega)) (by show ln 0 ≤ _; rw [ln_zero]; omega) (Nat.le_trans hs.2.2 (by omega)))
  have y1 : ¬ (9223372036854775807 < (partT (fr (nb x) 0 (nd x))).size + 1) := by omega
  have y2 : ¬ (9223372036854775807 < 1 + ((partT (fr (nb x) 0 (nd x))).size + 1)) := by omega
  have y3 : ¬ (9223372036854775807 < (partT (fr (na x) 0 (nd x))).size + ((partT (fr (nb x) 0 (nd x))).size + 1)) := by omega
  have y4 : ¬ (9223372036854775807 < (partT (fr (na x) 0 (nd x))).size + (1 + ((partT (fr (nb x) 0 (nd x))).size + 1))) := by omega
  rw [HT.out]
  clear h hs
  go_enter Tryz.func95, Tryz.ntmps95
  go_wp2_with fail
  obtain ⟨W, hW⟩ : ∃ W : World, W = (w.alloc (.cells #[.bool (sn (na x)), .slice A1 (ln (ab (na x))) (ln (ab (na x))), .bool (sn (nb x)), .slice A2 (ln (ab (nb x))) (ln (ab (nb x))), .slice A3 (ln (un x)) (ln (un x))] 30)) := ⟨_, rfl⟩
  have s0_0 : W.cell? ⟨w.heap.size, 0, none⟩ = some (.bool (sn (na x))) := by subst hW; go_simp
  have s0_1 : W.cell? ⟨w.heap.size, 1, none⟩ = some (.slice A1 (ln (ab (na x))) (ln (ab (na x)))) := by subst hW; go_simp
  have s0_2 : W.cell? ⟨w.heap.size, 2, none⟩ = some (.bool (sn (nb x))) := by subst hW; go_simp
  have s0_3 : W.cell? ⟨w.heap.size, 3, none⟩ = some (.slice A2 (ln (ab (nb x))) (ln (ab (nb x)))) := by subst hW; go_simp
  have s0_4 : W.cell? ⟨w.heap.size, 4, none⟩ = some (.slice A3 (ln (un x)) (ln (un x))) := by subst hW; go_simp
  have HW : Below w.heap.size w W := by subst hW; exact ((Below.refl w.heap.size w).alloc (Nat.le_refl _) _)
  have l0 : w.heap.size < W.heap.size := by subst hW; simp
  replace hx := hx.to HW
  rw [← hW]
  clear hW
  replace HW := Lib.hid HW
  refine (real_to x A1 A2 A3 _ (by exact hx) t1.out).mono ?_
  rintro e w1 ⟨rfl, hb1⟩
  replace s0_0 := keepc hb1 s0_0 l0
  replace s0_1 := keepc hb1 s0_1 l0
  replace s0_2 := keepc hb1 s0_2 l0
  replace s0_3 := keepc hb1 s0_3 l0
  replace s0_4 := keepc hb1 s0_4 l0
  replace l0 := Nat.lt_of_lt_of_le l0 hb1.size
  replace hx := hx.to hb1
  replace HW := Lib.hid (hstep HW hb1)
  clear hb1
  go_wp2_with fail
  go_region_held3 (fun w' => w'.cell? ⟨w.heap.size, 0, none⟩ = some (.bool (sn (na x))) ∧ w'.cell? ⟨w.heap.size, 1, none⟩ = some (.slice A1 (ln (ab (na x))) (ln (ab (na x)))) ∧ w'.cell? ⟨w.heap.size, 2, none⟩ = some (.bool (sn (nb x))) ∧ w'.cell? ⟨w.heap.size, 3, none⟩ = some (.slice A2 (ln (ab (nb x))) (ln (ab (nb x)))) ∧ w'.cell? ⟨w.heap.size, 4, none⟩ = some (.slice A3 (ln (un x)) (ln (un x)))) (first | with_reducible exact ⟨s0_0, s0_1, s0_2, s0_3, s0_4⟩ | with_reducible exact ⟨s0_0, s0_1, s0_2, s0_3, s0_4⟩ | exact ⟨s0_0, s0_1, s0_2, s0_3, s0_4⟩) (first
    | (go_at_call 89; refine (den_any x A1 A2 A3 _ (by exact hx)).mono ?_; rintro e w2 ⟨D, rfl, hD, hb2⟩; have hb2 := undrew hb2; replace s0_0 := keepc hb2 s0_0 l0; replace s0_1 := keepc hb2 s0_1 l0; replace s0_2 := keepc hb2 s0_2 l0; replace s0_3 := keepc hb2 s0_3 l0; replace s0_4 := keepc hb2 s0_4 l0; replace l0 := Nat.lt_of_lt_of_le l0 hb2.size; replace hx := hx.to hb2; replace HW := Lib.hid (hstep HW hb2); clear hb2)
    | (go_at_call 156; refine (part_any (na x) (nd x) A1 D _ (by exact hx.1) (by exact hD) (Nat.le_trans HS.out.1 (by omega)) (Nat.le_trans HS.out.2.2 (by omega)) (nd_ne0 x)).mono ?_; rintro e w3 ⟨rfl, hb3⟩; replace s0_0 := keepc hb3 s0_0 l0; replace s0_1 := keepc hb3 s0_1 l0; replace s0_2 := keepc hb3 s0_2 l0; replace s0_3 := keepc hb3 s0_3 l0; replace s0_4 := keepc hb3 s0_4 l0; replace l0 := Nat.lt_of_lt_of_le l0 hb3.size; replace hx := hx.to hb3; replace hD := hD.to hb3; replace HW := Lib.hid (hstep HW hb3); clear hb3; clear hD))
  go_wp2_with fail
  go_ret
  exact ⟨by first | rfl | (unfold imT; simp [ByteArray.append_assoc]), HW.out⟩
set_option maxHeartbeats 4000000 in
theorem text_imag (x : Cx) (A1 A2 A3 : Option Addr) (w : World) (hx : Num3 w A1 A2 A3 x) (hs : sz 274877906944 x) (h : nb x ≠ 0) (k : na x = 0) :
    Calls Tryz.prog 95 #[.agg #[.bool (sn (na x)), .slice A1 (ln (ab (na x))) (ln (ab (na x))), .bool (sn (nb x)), .slice A2 (ln (ab (nb x))) (ln (ab (nb x))), .slice A3 (ln (un x)) (ln (un x))]] w (RetStr w (textT x)) := by
  have HS : Hid (sz 274877906944 x) := Lib.hid hs
  have HT : Hid (textT x = imT x) := Lib.hid (by unfold textT; simp [h, k])
  have t1 : Hid (decide (nb x = 0) = false) := Lib.hid (decide_eq_false h)
  have hk := Lib.hid k
  have zr : (partT (fr (na x) 0 (nd x))).size ≤ 70368744177664 := partT_size (fr_sz (nd_ne0 x) (Nat.le_trans hs.1 (by omega)) (by show ln 0 ≤ _; rw [ln_zero]; omega) (Nat.le_trans hs.2.2 (by omega)))
  have zi : (partT (fr (nb x) 0 (nd x))).size ≤ 70368744177664 := partT_size (fr_sz (nd_ne0 x) (Nat.le_trans hs.2.1 (by omega)) (by show ln 0 ≤ _; rw [ln_zero]; omega) (Nat.le_trans hs.2.2 (by omega)))
  have y1 : ¬ (9223372036854775807 < (partT (fr (nb x) 0 (nd x))).size + 1) := by omega
  have y2 : ¬ (9223372036854775807 < 1 + ((partT (fr (nb x) 0 (nd x))).size + 1)) := by omega
  have y3 : ¬ (9223372036854775807 < (partT (fr (na x) 0 (nd x))).size + ((partT (fr (nb x) 0 (nd x))).size + 1)) := by omega
  have y4 : ¬ (9223372036854775807 < (partT (fr (na x) 0 (nd x))).size + (1 + ((partT (fr (nb x) 0 (nd x))).size + 1))) := by omega
  rw [HT.out]
  clear h hs k
  go_enter Tryz.func95, Tryz.ntmps95
  go_wp2_with fail
  obtain ⟨W, hW⟩ : ∃ W : World, W = (w.alloc (.cells #[.bool (sn (na x)), .slice A1 (ln (ab (na x))) (ln (ab (na x))), .bool (sn (nb x)), .slice A2 (ln (ab (nb x))) (ln (ab (nb x))), .slice A3 (ln (un x)) (ln (un x))] 30)) := ⟨_, rfl⟩
  have s0_0 : W.cell? ⟨w.heap.size, 0, none⟩ = some (.bool (sn (na x))) := by subst hW; go_simp
  have s0_1 : W.cell? ⟨w.heap.size, 1, none⟩ = some (.slice A1 (ln (ab (na x))) (ln (ab (na x)))) := by subst hW; go_simp
  have s0_2 : W.cell? ⟨w.heap.size, 2, none⟩ = some (.bool (sn (nb x))) := by subst hW; go_simp
  have s0_3 : W.cell? ⟨w.heap.size, 3, none⟩ = some (.slice A2 (ln (ab (nb x))) (ln (ab (nb x)))) := by subst hW; go_simp
  have s0_4 : W.cell? ⟨w.heap.size, 4, none⟩ = some (.slice A3 (ln (un x)) (ln (un x))) := by subst hW; go_simp
  have HW : Below w.heap.size w W := by subst hW; exact ((Below.refl w.heap.size w).alloc (Nat.le_refl _) _)
  have l0 : w.heap.size < W.heap.size := by subst hW; simp
  replace hx := hx.to HW
  rw [← hW]
  clear hW
  replace HW := Lib.hid HW
  refine (real_to x A1 A2 A3 _ (by exact hx) t1.out).mono ?_
  rintro e w1 ⟨rfl, hb1⟩
  replace s0_0 := keepc hb1 s0_0 l0
  replace s0_1 := keepc hb1 s0_1 l0
  replace s0_2 := keepc hb1 s0_2 l0
  replace s0_3 := keepc hb1 s0_3 l0
  replace s0_4 := keepc hb1 s0_4 l0
  replace l0 := Nat.lt_of_lt_of_le l0 hb1.size
  replace hx := hx.to hb1
  replace HW := Lib.hid (hstep HW hb1)
  clear hb1
  go_wp2_with fail
  have t2 : ((ln (ab (na x)) : Int) == 0) = true := by rw [hk.out, show ab 0 = 0 from rfl, ln_zero]; rfl
  go_region_held3 (fun w' => w'.cell? ⟨w.heap.size, 0, none⟩ = some (.bool (sn (na x))) ∧ w'.cell? ⟨w.heap.size, 1, none⟩ = some (.slice A1 (ln (ab (na x))) (ln (ab (na x)))) ∧ w'.cell? ⟨w.heap.size, 2, none⟩ = some (.bool (sn (nb x))) ∧ w'.cell? ⟨w.heap.size, 3, none⟩ = some (.slice A2 (ln (ab (nb x))) (ln (ab (nb x)))) ∧ w'.cell? ⟨w.heap.size, 4, none⟩ = some (.slice A3 (ln (un x)) (ln (un x)))) (first | with_reducible exact ⟨s0_0, s0_1, s0_2, s0_3, s0_4⟩ | with_reducible exact ⟨s0_0, s0_1, s0_2, s0_3, s0_4⟩ | exact ⟨s0_0, s0_1, s0_2, s0_3, s0_4⟩) (first
    | (go_at_call 89; refine (den_any x A1 A2 A3 _ (by exact hx)).mono ?_; rintro e w2 ⟨D, rfl, hD, hb2⟩; have hb2 := undrew hb2; replace s0_0 := keepc hb2 s0_0 l0; replace s0_1 := keepc hb2 s0_1 l0; replace s0_2 := keepc hb2 s0_2 l0; replace s0_3 := keepc hb2 s0_3 l0; replace s0_4 := keepc hb2 s0_4 l0; replace l0 := Nat.lt_of_lt_of_le l0 hb2.size; replace hx := hx.to hb2; replace HW := Lib.hid (hstep HW hb2); clear hb2)
    | (go_at_call 156; refine (part_any (nb x) (nd x) A2 D _ (by exact hx.2.1) (by exact hD) (Nat.le_trans HS.out.2.1 (by omega)) (Nat.le_trans HS.out.2.2 (by omega)) (nd_ne0 x)).mono ?_; rintro e w3 ⟨rfl, hb3⟩; replace s0_0 := keepc hb3 s0_0 l0; replace s0_1 := keepc hb3 s0_1 l0; replace s0_2 := keepc hb3 s0_2 l0; replace s0_3 := keepc hb3 s0_3 l0; replace s0_4 := keepc hb3 s0_4 l0; replace l0 := Nat.lt_of_lt_of_le l0 hb3.size; replace hx := hx.to hb3; replace hD := hD.to hb3; replace HW := Lib.hid (hstep HW hb3); clear hb3; clear hD))
  go_wp2_with fail
  go_ret
  exact ⟨by first | rfl | (unfold imT; simp [ByteArray.append_assoc]), HW.out⟩
set_option maxHeartbeats 4000000 in
theorem text_minus (x : Cx) (A1 A2 A3 : Option Addr) (w : World) (hx : Num3 w A1 A2 A3 x) (hs : sz 274877906944 x) (h : nb x ≠ 0) (k : na x ≠ 0) (m : sn (nb x) = true) :
    Calls Tryz.prog 95 #[.agg #[.bool (sn (na x)), .slice A1 (ln (ab (na x))) (ln (ab (na x))), .bool (sn (nb x)), .slice A2 (ln (ab (nb x))) (ln (ab (nb x))), .slice A3 (ln (un x)) (ln (un x))]] w (RetStr w (textT x)) := by
  have HS : Hid (sz 274877906944 x) := Lib.hid hs
  have HT : Hid (textT x = partT (fr (na x) 0 (nd x)) ++ imT x) := Lib.hid (by unfold textT; simp [h, k, m])
  have t1 : Hid (decide (nb x = 0) = false) := Lib.hid (decide_eq_false h)
  have hk := Lib.hid k
  have hm := Lib.hid m
  have zr : (partT (fr (na x) 0 (nd x))).size ≤ 70368744177664 := partT_size (fr_sz (nd_ne0 x) (Nat.le_trans hs.1 (by omega)) (by show ln 0 ≤ _; rw [ln_zero]; omega) (Nat.le_trans hs.2.2 (by omega)))
  have zi : (partT (fr (nb x) 0 (nd x))).size ≤ 70368744177664 := partT_size (fr_sz (nd_ne0 x) (Nat.le_trans hs.2.1 (by omega)) (by show ln 0 ≤ _; rw [ln_zero]; omega) (Nat.le_trans hs.2.2 (by omega)))
  have y1 : ¬ (9223372036854775807 < (partT (fr (nb x) 0 (nd x))).size + 1) := by omega
  have y2 : ¬ (9223372036854775807 < 1 + ((partT (fr (nb x) 0 (nd x))).size + 1)) := by omega
  have y3 : ¬ (9223372036854775807 < (partT (fr (na x) 0 (nd x))).size + ((partT (fr (nb x) 0 (nd x))).size + 1)) := by omega
  have y4 : ¬ (9223372036854775807 < (partT (fr (na x) 0 (nd x))).size + (1 + ((partT (fr (nb x) 0 (nd x))).size + 1))) := by omega
  rw [HT.out]
  clear h hs k m
  go_enter Tryz.func95, Tryz.ntmps95
  go_wp2_with fail
  obtain ⟨W, hW⟩ : ∃ W : World, W = (w.alloc (.cells #[.bool (sn (na x)), .slice A1 (ln (ab (na x))) (ln (ab (na x))), .bool (sn (nb x)), .slice A2 (ln (ab (nb x))) (ln (ab (nb x))), .slice A3 (ln (un x)) (ln (un x))] 30)) := ⟨_, rfl⟩
  have s0_0 : W.cell? ⟨w.heap.size, 0, none⟩ = some (.bool (sn (na x))) := by subst hW; go_simp
  have s0_1 : W.cell? ⟨w.heap.size, 1, none⟩ = some (.slice A1 (ln (ab (na x))) (ln (ab (na x)))) := by subst hW; go_simp
  have s0_2 : W.cell? ⟨w.heap.size, 2, none⟩ = some (.bool (sn (nb x))) := by subst hW; go_simp
  have s0_3 : W.cell? ⟨w.heap.size, 3, none⟩ = some (.slice A2 (ln (ab (nb x))) (ln (ab (nb x)))) := by subst hW; go_simp
  have s0_4 : W.cell? ⟨w.heap.size, 4, none⟩ = some (.slice A3 (ln (un x)) (ln (un x))) := by subst hW; go_simp
  have HW : Below w.heap.size w W := by subst hW; exact ((Below.refl w.heap.size w).alloc (Nat.le_refl _) _)
  have l0 : w.heap.size < W.heap.size := by subst hW; simp
  replace hx := hx.to HW
  rw [← hW]
  clear hW
  replace HW := Lib.hid HW
  refine (real_to x A1 A2 A3 _ (by exact hx) t1.out).mono ?_
  rintro e w1 ⟨rfl, hb1⟩
  replace s0_0 := keepc hb1 s0_0 l0
  replace s0_1 := keepc hb1 s0_1 l0
  replace s0_2 := keepc hb1 s0_2 l0
  replace s0_3 := keepc hb1 s0_3 l0
  replace s0_4 := keepc hb1 s0_4 l0
  replace l0 := Nat.lt_of_lt_of_le l0 hb1.size
  replace hx := hx.to hb1
  replace HW := Lib.hid (hstep HW hb1)
  clear hb1
  go_wp2_with fail
  have t2 : ((ln (ab (na x)) : Int) == 0) = false := by rw [beq_eq_false_iff_ne]; have h := hk.out; have := ln_pos (n := ab (na x)) (by unfold ab; omega); omega
  go_region_held3 (fun w' => w'.cell? ⟨w.heap.size, 0, none⟩ = some (.bool (sn (na x))) ∧ w'.cell? ⟨w.heap.size, 1, none⟩ = some (.slice A1 (ln (ab (na x))) (ln (ab (na x)))) ∧ w'.cell? ⟨w.heap.size, 2, none⟩ = some (.bool (sn (nb x))) ∧ w'.cell? ⟨w.heap.size, 3, none⟩ = some (.slice A2 (ln (ab (nb x))) (ln (ab (nb x)))) ∧ w'.cell? ⟨w.heap.size, 4, none⟩ = some (.slice A3 (ln (un x)) (ln (un x)))) (first | with_reducible exact ⟨s0_0, s0_1, s0_2, s0_3, s0_4⟩ | with_reducible exact ⟨s0_0, s0_1, s0_2, s0_3, s0_4⟩ | exact ⟨s0_0, s0_1, s0_2, s0_3, s0_4⟩) (first
    | (go_at_call 89; refine (den_any x A1 A2 A3 _ (by exact hx)).mono ?_; rintro e w2 ⟨D, rfl, hD, hb2⟩; have hb2 := undrew hb2; replace s0_0 := keepc hb2 s0_0 l0; replace s0_1 := keepc hb2 s0_1 l0; replace s0_2 := keepc hb2 s0_2 l0; replace s0_3 := keepc hb2 s0_3 l0; replace s0_4 := keepc hb2 s0_4 l0; replace l0 := Nat.lt_of_lt_of_le l0 hb2.size; replace hx := hx.to hb2; replace HW := Lib.hid (hstep HW hb2); clear hb2)
    | (go_at_call 156; refine (part_any (nb x) (nd x) A2 D _ (by exact hx.2.1) (by exact hD) (Nat.le_trans HS.out.2.1 (by omega)) (Nat.le_trans HS.out.2.2 (by omega)) (nd_ne0 x)).mono ?_; rintro e w3 ⟨rfl, hb3⟩; replace s0_0 := keepc hb3 s0_0 l0; replace s0_1 := keepc hb3 s0_1 l0; replace s0_2 := keepc hb3 s0_2 l0; replace s0_3 := keepc hb3 s0_3 l0; replace s0_4 := keepc hb3 s0_4 l0; replace l0 := Nat.lt_of_lt_of_le l0 hb3.size; replace hx := hx.to hb3; replace hD := hD.to hb3; replace HW := Lib.hid (hstep HW hb3); clear hb3; clear hD))
  have k2 := Lib.hid s0_2
  rw [hm.out] at s0_2
  go_wp2_with fail
  replace s0_2 := k2.out
  clear k2
  go_region_held3 (fun w' => w'.cell? ⟨w.heap.size, 0, none⟩ = some (.bool (sn (na x))) ∧ w'.cell? ⟨w.heap.size, 1, none⟩ = some (.slice A1 (ln (ab (na x))) (ln (ab (na x)))) ∧ w'.cell? ⟨w.heap.size, 2, none⟩ = some (.bool (sn (nb x))) ∧ w'.cell? ⟨w.heap.size, 3, none⟩ = some (.slice A2 (ln (ab (nb x))) (ln (ab (nb x)))) ∧ w'.cell? ⟨w.heap.size, 4, none⟩ = some (.slice A3 (ln (un x)) (ln (un x)))) (first | with_reducible exact ⟨s0_0, s0_1, s0_2, s0_3, s0_4⟩ | with_reducible exact ⟨s0_0, s0_1, s0_2, s0_3, s0_4⟩ | exact ⟨s0_0, s0_1, s0_2, s0_3, s0_4⟩) (first
    | (go_at_call 89; refine (den_any x A1 A2 A3 _ (by exact hx)).mono ?_; rintro e w4 ⟨D, rfl, hD, hb4⟩; have hb4 := undrew hb4; replace s0_0 := keepc hb4 s0_0 l0; replace s0_1 := keepc hb4 s0_1 l0; replace s0_2 := keepc hb4 s0_2 l0; replace s0_3 := keepc hb4 s0_3 l0; replace s0_4 := keepc hb4 s0_4 l0; replace l0 := Nat.lt_of_lt_of_le l0 hb4.size; replace hx := hx.to hb4; replace HW := Lib.hid (hstep HW hb4); clear hb4)
    | (go_at_call 156; refine (part_any (na x) (nd x) A1 D _ (by exact hx.1) (by exact hD) (Nat.le_trans HS.out.1 (by omega)) (Nat.le_trans HS.out.2.2 (by omega)) (nd_ne0 x)).mono ?_; rintro e w5 ⟨rfl, hb5⟩; replace s0_0 := keepc hb5 s0_0 l0; replace s0_1 := keepc hb5 s0_1 l0; replace s0_2 := keepc hb5 s0_2 l0; replace s0_3 := keepc hb5 s0_3 l0; replace s0_4 := keepc hb5 s0_4 l0; replace l0 := Nat.lt_of_lt_of_le l0 hb5.size; replace hx := hx.to hb5; replace hD := hD.to hb5; replace HW := Lib.hid (hstep HW hb5); clear hb5; clear hD))
  go_wp2_with fail
  go_ret
  exact ⟨by first | rfl | (unfold imT; simp [ByteArray.append_assoc]), HW.out⟩
set_option maxHeartbeats 4000000 in
theorem text_plus (x : Cx) (A1 A2 A3 : Option Addr) (w : World) (hx : Num3 w A1 A2 A3 x) (hs : sz 274877906944 x) (h : nb x ≠ 0) (k : na x ≠ 0) (m : sn (nb x) = false) :
    Calls Tryz.prog 95 #[.agg #[.bool (sn (na x)), .slice A1 (ln (ab (na x))) (ln (ab (na x))), .bool (sn (nb x)), .slice A2 (ln (ab (nb x))) (ln (ab (nb x))), .slice A3 (ln (un x)) (ln (un x))]] w (RetStr w (textT x)) := by
  have HS : Hid (sz 274877906944 x) := Lib.hid hs
  have HT : Hid (textT x = partT (fr (na x) 0 (nd x)) ++ (⟨#[43]⟩ ++ imT x)) := Lib.hid (by unfold textT; simp [h, k, m])
  have t1 : Hid (decide (nb x = 0) = false) := Lib.hid (decide_eq_false h)
  have hk := Lib.hid k
  have hm := Lib.hid m
  have zr : (partT (fr (na x) 0 (nd x))).size ≤ 70368744177664 := partT_size (fr_sz (nd_ne0 x) (Nat.le_trans hs.1 (by omega)) (by show ln 0 ≤ _; rw [ln_zero]; omega) (Nat.le_trans hs.2.2 (by omega)))
  have zi : (partT (fr (nb x) 0 (nd x))).size ≤ 70368744177664 := partT_size (fr_sz (nd_ne0 x) (Nat.le_trans hs.2.1 (by omega)) (by show ln 0 ≤ _; rw [ln_zero]; omega) (Nat.le_trans hs.2.2 (by omega)))
  have y1 : ¬ (9223372036854775807 < (partT (fr (nb x) 0 (nd x))).size + 1) := by omega
  have y2 : ¬ (9223372036854775807 < 1 + ((partT (fr (nb x) 0 (nd x))).size + 1)) := by omega
  have y3 : ¬ (9223372036854775807 < (partT (fr (na x) 0 (nd x))).size + ((partT (fr (nb x) 0 (nd x))).size + 1)) := by omega
  have y4 : ¬ (9223372036854775807 < (partT (fr (na x) 0 (nd x))).size + (1 + ((partT (fr (nb x) 0 (nd x))).size + 1))) := by omega
  rw [HT.out]
  clear h hs k m
  go_enter Tryz.func95, Tryz.ntmps95
  go_wp2_with fail
  obtain ⟨W, hW⟩ : ∃ W : World, W = (w.alloc (.cells #[.bool (sn (na x)), .slice A1 (ln (ab (na x))) (ln (ab (na x))), .bool (sn (nb x)), .slice A2 (ln (ab (nb x))) (ln (ab (nb x))), .slice A3 (ln (un x)) (ln (un x))] 30)) := ⟨_, rfl⟩
  have s0_0 : W.cell? ⟨w.heap.size, 0, none⟩ = some (.bool (sn (na x))) := by subst hW; go_simp
  have s0_1 : W.cell? ⟨w.heap.size, 1, none⟩ = some (.slice A1 (ln (ab (na x))) (ln (ab (na x)))) := by subst hW; go_simp
  have s0_2 : W.cell? ⟨w.heap.size, 2, none⟩ = some (.bool (sn (nb x))) := by subst hW; go_simp
  have s0_3 : W.cell? ⟨w.heap.size, 3, none⟩ = some (.slice A2 (ln (ab (nb x))) (ln (ab (nb x)))) := by subst hW; go_simp
  have s0_4 : W.cell? ⟨w.heap.size, 4, none⟩ = some (.slice A3 (ln (un x)) (ln (un x))) := by subst hW; go_simp
  have HW : Below w.heap.size w W := by subst hW; exact ((Below.refl w.heap.size w).alloc (Nat.le_refl _) _)
  have l0 : w.heap.size < W.heap.size := by subst hW; simp
  replace hx := hx.to HW
  rw [← hW]
  clear hW
  replace HW := Lib.hid HW
  refine (real_to x A1 A2 A3 _ (by exact hx) t1.out).mono ?_
  rintro e w1 ⟨rfl, hb1⟩
  replace s0_0 := keepc hb1 s0_0 l0
  replace s0_1 := keepc hb1 s0_1 l0
  replace s0_2 := keepc hb1 s0_2 l0
  replace s0_3 := keepc hb1 s0_3 l0
  replace s0_4 := keepc hb1 s0_4 l0
  replace l0 := Nat.lt_of_lt_of_le l0 hb1.size
  replace hx := hx.to hb1
  replace HW := Lib.hid (hstep HW hb1)
  clear hb1
  go_wp2_with fail
  have t2 : ((ln (ab (na x)) : Int) == 0) = false := by rw [beq_eq_false_iff_ne]; have h := hk.out; have := ln_pos (n := ab (na x)) (by unfold ab; omega); omega
  go_region_held3 (fun w' => w'.cell? ⟨w.heap.size, 0, none⟩ = some (.bool (sn (na x))) ∧ w'.cell? ⟨w.heap.size, 1, none⟩ = some (.slice A1 (ln (ab (na x))) (ln (ab (na x)))) ∧ w'.cell? ⟨w.heap.size, 2, none⟩ = some (.bool (sn (nb x))) ∧ w'.cell? ⟨w.heap.size, 3, none⟩ = some (.slice A2 (ln (ab (nb x))) (ln (ab (nb x)))) ∧ w'.cell? ⟨w.heap.size, 4, none⟩ = some (.slice A3 (ln (un x)) (ln (un x)))) (first | with_reducible exact ⟨s0_0, s0_1, s0_2, s0_3, s0_4⟩ | with_reducible exact ⟨s0_0, s0_1, s0_2, s0_3, s0_4⟩ | exact ⟨s0_0, s0_1, s0_2, s0_3, s0_4⟩) (first
    | (go_at_call 89; refine (den_any x A1 A2 A3 _ (by exact hx)).mono ?_; rintro e w2 ⟨D, rfl, hD, hb2⟩; have hb2 := undrew hb2; replace s0_0 := keepc hb2 s0_0 l0; replace s0_1 := keepc hb2 s0_1 l0; replace s0_2 := keepc hb2 s0_2 l0; replace s0_3 := keepc hb2 s0_3 l0; replace s0_4 := keepc hb2 s0_4 l0; replace l0 := Nat.lt_of_lt_of_le l0 hb2.size; replace hx := hx.to hb2; replace HW := Lib.hid (hstep HW hb2); clear hb2)
    | (go_at_call 156; refine (part_any (nb x) (nd x) A2 D _ (by exact hx.2.1) (by exact hD) (Nat.le_trans HS.out.2.1 (by omega)) (Nat.le_trans HS.out.2.2 (by omega)) (nd_ne0 x)).mono ?_; rintro e w3 ⟨rfl, hb3⟩; replace s0_0 := keepc hb3 s0_0 l0; replace s0_1 := keepc hb3 s0_1 l0; replace s0_2 := keepc hb3 s0_2 l0; replace s0_3 := keepc hb3 s0_3 l0; replace s0_4 := keepc hb3 s0_4 l0; replace l0 := Nat.lt_of_lt_of_le l0 hb3.size; replace hx := hx.to hb3; replace hD := hD.to hb3; replace HW := Lib.hid (hstep HW hb3); clear hb3; clear hD))
  have k2 := Lib.hid s0_2
  rw [hm.out] at s0_2
  go_wp2_with fail
  replace s0_2 := k2.out
  clear k2
  go_region_held3 (fun w' => w'.cell? ⟨w.heap.size, 0, none⟩ = some (.bool (sn (na x))) ∧ w'.cell? ⟨w.heap.size, 1, none⟩ = some (.slice A1 (ln (ab (na x))) (ln (ab (na x)))) ∧ w'.cell? ⟨w.heap.size, 2, none⟩ = some (.bool (sn (nb x))) ∧ w'.cell? ⟨w.heap.size, 3, none⟩ = some (.slice A2 (ln (ab (nb x))) (ln (ab (nb x)))) ∧ w'.cell? ⟨w.heap.size, 4, none⟩ = some (.slice A3 (ln (un x)) (ln (un x)))) (first | with_reducible exact ⟨s0_0, s0_1, s0_2, s0_3, s0_4⟩ | with_reducible exact ⟨s0_0, s0_1, s0_2, s0_3, s0_4⟩ | exact ⟨s0_0, s0_1, s0_2, s0_3, s0_4⟩) (first
    | (go_at_call 89; refine (den_any x A1 A2 A3 _ (by exact hx)).mono ?_; rintro e w4 ⟨D, rfl, hD, hb4⟩; have hb4 := undrew hb4; replace s0_0 := keepc hb4 s0_0 l0; replace s0_1 := keepc hb4 s0_1 l0; replace s0_2 := keepc hb4 s0_2 l0; replace s0_3 := keepc hb4 s0_3 l0; replace s0_4 := keepc hb4 s0_4 l0; replace l0 := Nat.lt_of_lt_of_le l0 hb4.size; replace hx := hx.to hb4; replace HW := Lib.hid (hstep HW hb4); clear hb4)
    | (go_at_call 156; refine (part_any (na x) (nd x) A1 D _ (by exact hx.1) (by exact hD) (Nat.le_trans HS.out.1 (by omega)) (Nat.le_trans HS.out.2.2 (by omega)) (nd_ne0 x)).mono ?_; rintro e w5 ⟨rfl, hb5⟩; replace s0_0 := keepc hb5 s0_0 l0; replace s0_1 := keepc hb5 s0_1 l0; replace s0_2 := keepc hb5 s0_2 l0; replace s0_3 := keepc hb5 s0_3 l0; replace s0_4 := keepc hb5 s0_4 l0; replace l0 := Nat.lt_of_lt_of_le l0 hb5.size; replace hx := hx.to hb5; replace hD := hD.to hb5; replace HW := Lib.hid (hstep HW hb5); clear hb5; clear hD))
  go_wp2_with fail
  go_ret
  exact ⟨by first | rfl | (unfold imT; simp [ByteArray.append_assoc]), HW.out⟩
theorem text_any (x : Cx) (A1 A2 A3 : Option Addr) (w : World) (hx : Num3 w A1 A2 A3 x) (hs : sz 274877906944 x) :
    Calls Tryz.prog 95 #[.agg #[.bool (sn (na x)), .slice A1 (ln (ab (na x))) (ln (ab (na x))), .bool (sn (nb x)), .slice A2 (ln (ab (nb x))) (ln (ab (nb x))), .slice A3 (ln (un x)) (ln (un x))]] w (RetStr w (textT x)) := by
  by_cases h : nb x = 0
  · exact text_real x A1 A2 A3 w hx hs h
  · by_cases k : na x = 0
    · exact text_imag x A1 A2 A3 w hx hs h k
    · cases m : sn (nb x) with
      | true => have := text_minus x A1 A2 A3 w hx hs h k m; rwa [m] at this
      | false => have := text_plus x A1 A2 A3 w hx hs h k m; rwa [m] at this
end Go.Proofs.YtgpmlhpgdalheaaGreat

namespace Go.Proofs.YtgpmlhpgdalheaaGreat
open Go.RowKit Pl
set_option linter.unusedVariables false
set_option linter.unusedSimpArgs false
theorem la14 {y : Cx} (h : y ≠ Cx.zero) : (!decide (y = Cx.zero)) = true := by rw [decide_eq_false h]; rfl
end Go.Proofs.YtgpmlhpgdalheaaGreat

namespace Go.Proofs.YtgpmlhpgdalheaaGreat
open Go.RowKit Pl
set_option linter.unusedVariables false
set_option linter.unusedSimpArgs false
/-- The second number of a row. -/
def At5 (w : World) (g : Nat) (q : Cx) (A1 A2 A3 : Option Addr) : Prop := g < w.heap.size ∧ (w.cell? ⟨g, 5, none⟩ = some (.bool (sn (na q))) ∧ w.cell? ⟨g, 6, none⟩ = some (.slice A1 (ln (ab (na q))) (ln (ab (na q)))) ∧ w.cell? ⟨g, 7, none⟩ = some (.bool (sn (nb q))) ∧ w.cell? ⟨g, 8, none⟩ = some (.slice A2 (ln (ab (nb q))) (ln (ab (nb q)))) ∧ w.cell? ⟨g, 9, none⟩ = some (.slice A3 (ln (un q)) (ln (un q)))) ∧ Num3 w A1 A2 A3 q
theorem At5.to {w w' : World} {g : Nat} {q : Cx} {A1 A2 A3 : Option Addr} (h : At5 w g q A1 A2 A3) (hb : Below w.heap.size w w') : At5 w' g q A1 A2 A3 := by
  obtain ⟨h2, ⟨c0, c1, c2, c3, c4⟩, h3⟩ := h
  exact ⟨Nat.lt_of_lt_of_le h2 hb.size, ⟨keepc hb c0 h2, keepc hb c1 h2, keepc hb c2 h2, keepc hb c3 h2, keepc hb c4 h2⟩, h3.to hb⟩
/-- A Num is stored as the second number of the row p. -/
def set55 (w : World) (p : Nat) (q : Cx) (A1 A2 A3 : Option Addr) : World :=
  ((((w.setCell ⟨p, 5, none⟩ (.bool (sn (na q)))).setCell ⟨p, 6, none⟩ (.slice A1 (ln (ab (na q))) (ln (ab (na q))))).setCell ⟨p, 7, none⟩ (.bool (sn (nb q)))).setCell ⟨p, 8, none⟩ (.slice A2 (ln (ab (nb q))) (ln (ab (nb q))))).setCell ⟨p, 9, none⟩ (.slice A3 (ln (un q)) (ln (un q)))
theorem set55_size (w : World) (p : Nat) (q : Cx) (A1 A2 A3 : Option Addr) : (set55 w p q A1 A2 A3).heap.size = w.heap.size := by simp [set55, World.setCell]
theorem set55_cell {w : World} {p b i : Nat} {q : Cx} {A1 A2 A3 : Option Addr} {v : Value} (h : w.cell? ⟨b, i, none⟩ = some v) (h1 : b ≠ p ∨ i < 5) : (set55 w p q A1 A2 A3).cell? ⟨b, i, none⟩ = some v := keepo (keepo (keepo (keepo (keepo h (by omega)) (by omega)) (by omega)) (by omega)) (by omega)
theorem set55_below {w W : World} {B p : Nat} {q : Cx} {A1 A2 A3 : Option Addr} (h : Below B w W) (hp : B ≤ p) : Below B w (set55 W p q A1 A2 A3) :=
  ((((h.setCell (by exact hp) _).setCell (by exact hp) _).setCell (by exact hp) _).setCell (by exact hp) _).setCell (by exact hp) _
theorem set55_nat {w : World} {p n : Nat} {q : Cx} {A1 A2 A3 A : Option Addr} {c : Bool} (h : Nat32 w A n) (u : w.cell? ⟨p, 0, none⟩ = some (.bool c)) : Nat32 (set55 w p q A1 A2 A3) A n := by
  have nb : ∀ (b : Bool) k m, Value.bool b ≠ .int k m := by intro b k m e; cases e
  have a1 := keepo (R := p) (j := 5) (u := .bool (sn (na q))) u (.inr (by omega))
  have a2 := keepo (R := p) (j := 6) (u := .slice A1 (ln (ab (na q))) (ln (ab (na q)))) a1 (.inr (by omega))
  have a3 := keepo (R := p) (j := 7) (u := .bool (sn (Pl.nb q))) a2 (.inr (by omega))
  have a4 := keepo (R := p) (j := 8) (u := .slice A2 (ln (ab (Pl.nb q))) (ln (ab (Pl.nb q)))) a3 (.inr (by omega))
  exact ((((h.setBox u (nb _)).setBox a1 (nb _)).setBox a2 (nb _)).setBox a3 (nb _)).setBox a4 (nb _)
theorem set55_num3 {w : World} {p : Nat} {q r : Cx} {A1 A2 A3 B1 B2 B3 : Option Addr} {c : Bool} (h : Num3 w B1 B2 B3 r) (u : w.cell? ⟨p, 0, none⟩ = some (.bool c)) : Num3 (set55 w p q A1 A2 A3) B1 B2 B3 r := ⟨set55_nat h.1 u, set55_nat h.2.1 u, set55_nat h.2.2 u⟩
theorem set55_var {w : World} {p g : Nat} {q r : Cx} {A1 A2 A3 B1 B2 B3 : Option Addr} {c : Bool} (h : VarAt w g r B1 B2 B3) (u : w.cell? ⟨p, 0, none⟩ = some (.bool c)) : VarAt (set55 w p q A1 A2 A3) g r B1 B2 B3 := by
  obtain ⟨h2, ⟨c0, c1, c2, c3, c4⟩, h3⟩ := h
  exact ⟨by rw [set55_size]; exact h2, ⟨set55_cell c0 (by omega), set55_cell c1 (by omega), set55_cell c2 (by omega), set55_cell c3 (by omega), set55_cell c4 (by omega)⟩, set55_num3 h3 u⟩
theorem set55_at5 {w : World} {p : Nat} {q : Cx} {A1 A2 A3 : Option Addr} {c : Bool} {v0 v1 v2 v3 v4 : Value} (hp : p < w.heap.size) (hq : Num3 w A1 A2 A3 q) (u : w.cell? ⟨p, 0, none⟩ = some (.bool c)) (u0 : w.cell? ⟨p, 5, none⟩ = some v0) (u1 : w.cell? ⟨p, 6, none⟩ = some v1) (u2 : w.cell? ⟨p, 7, none⟩ = some v2) (u3 : w.cell? ⟨p, 8, none⟩ = some v3) (u4 : w.cell? ⟨p, 9, none⟩ = some v4) : At5 (set55 w p q A1 A2 A3) p q A1 A2 A3 := by
  refine ⟨by rw [set55_size]; exact hp, ?_, set55_num3 hq u⟩
  unfold set55
  have o0 := cell_self (u := .bool (sn (na q))) u0
  refine ⟨?_, ?_, ?_, ?_, ?_⟩
  · exact keepo (keepo (keepo (keepo o0 (by omega)) (by omega)) (by omega)) (by omega)
  · exact keepo (keepo (keepo (cell_self (keepo u1 (by omega))) (by omega)) (by omega)) (by omega)
  · exact keepo (keepo (cell_self (keepo (keepo u2 (by omega)) (by omega))) (by omega)) (by omega)
  · exact keepo (cell_self (keepo (keepo (keepo u3 (by omega)) (by omega)) (by omega))) (by omega)
  · exact cell_self (keepo (keepo (keepo (keepo u4 (by omega)) (by omega)) (by omega)) (by omega))
/-- An operation is taken first; its slot is named. -/
theorem takeH {P : Program} {md : Region.Mode} {ops : Array Oper} {Q : Exit → Act → World → Prop} {S : World → Prop} {i d : Nat} {oi : Oper} {v : Value} {fuel : Nat} {listed : Array Bool} {a : Act} {w : World} (hi : ops[i]? = some oi) (hd : oi.dst = some d)
    (hs : Region.noSelect ops = true) (hf : Region.free md ops listed i = true) (hr : (Region.ready md ops listed).contains i = true)
    (hQ : ∀ c a w, Q (.panic c) (a.put oi.dst v) w → Q (.panic c) a w) (hy : YieldsIf P ops S oi v a) (hS : S w)
    (h : wpAnyH P md ops Q S fuel (listed.setIfInBounds i true) (a.put (some d) v) w) : wpAnyH P md ops Q S (fuel + 1) listed a w := by
  rw [← hd] at h; exact wpAnyH_take hi hs hf hr hQ hy hS h
theorem bstep {B : Nat} {w W w1 : World} (h : Hid (Below B w W)) (hB : Hid (B ≤ w.heap.size)) (hb : Below W.heap.size W w1) : Below B w w1 := h.out.trans (hb.mono (Nat.le_trans hB.out h.out.size))
set_option maxRecDepth 100000 in
set_option maxHeartbeats 8000000 in
theorem elim2 (w : World) (B p r0 r1 a0 a1 : Nat) (q00 q01 q10 q11 : Cx) (A1 A2 A3 B1 B2 B3 C1 C2 C3 E1 E2 E3 : Option Addr) (c0 : w.cell? ⟨p, 0, none⟩ = some (.slice (some ⟨r0, 0, none⟩) 2 a0)) (c1 : w.cell? ⟨p, 1, none⟩ = some (.slice (some ⟨r1, 0, none⟩) 2 a1)) (V00 : VarAt w r0 q00 A1 A2 A3) (V01 : At5 w r0 q01 B1 B2 B3) (V10 : VarAt w r1 q10 C1 C2 C3) (V11 : At5 w r1 q11 E1 E2 E3) (f5 : w.frozen? ⟨r1, 5, none⟩ = false) (f6 : w.frozen? ⟨r1, 6, none⟩ = false) (f7 : w.frozen? ⟨r1, 7, none⟩ = false) (f8 : w.frozen? ⟨r1, 8, none⟩ = false) (f9 : w.frozen? ⟨r1, 9, none⟩ = false) (hp : p < w.heap.size) (hB : B ≤ w.heap.size) (hBr : B ≤ r1) (n01 : r0 ≠ r1) (np : p ≠ r1) (z00 : sz 2 q00) (z01 : sz 2 q01) (z10 : sz 2 q10) (z11 : sz 2 q11) (h00 : q00 ≠ Cx.zero) (h11 : q11.sub ((q10.div q00).mul q01) ≠ Cx.zero) :
    Calls Tryz.prog 153 #[.slice (some ⟨p, 0, none⟩) 2 2] w fun e w' => e = .returned (.tuple #[.int .i64 0, .int .i64 (-1)]) ∧ w'.cell? ⟨p, 0, none⟩ = some (.slice (some ⟨r0, 0, none⟩) 2 a0) ∧ w'.cell? ⟨p, 1, none⟩ = some (.slice (some ⟨r1, 0, none⟩) 2 a1) ∧ VarAt w' r0 q00 A1 A2 A3 ∧ (∃ U1 U2 U3, At5 w' r1 (q11.sub ((q10.div q00).mul q01)) U1 U2 U3) ∧ Below B w w' := by
  have H00 := Lib.hid h00
  have H11 := Lib.hid h11
  have HB0 := Lib.hid hB
  have HBr := Lib.hid hBr
  clear h00 h11 hB hBr
  have HW : Hid (Below B w w) := Lib.hid (Below.refl _ _)
  have hmDiv : ∀ (k : Nat) (v1 v2 v3 v4 v5 : Value) (w : World), (method (k + 1) 30 (.agg #[v1, v2, v3, v4, v5]) "Div").run Tryz.prog w = .ok (32, .agg #[v1, v2, v3, v4, v5]) w := fun _ _ _ _ _ _ _ => by kernel_rfl
  have hmMul : ∀ (k : Nat) (v1 v2 v3 v4 v5 : Value) (w : World), (method (k + 1) 30 (.agg #[v1, v2, v3, v4, v5]) "Mul").run Tryz.prog w = .ok (30, .agg #[v1, v2, v3, v4, v5]) w := fun _ _ _ _ _ _ _ => by kernel_rfl
  have hmSub : ∀ (k : Nat) (v1 v2 v3 v4 v5 : Value) (w : World), (method (k + 1) 30 (.agg #[v1, v2, v3, v4, v5]) "Sub").run Tryz.prog w = .ok (28, .agg #[v1, v2, v3, v4, v5]) w := fun _ _ _ _ _ _ _ => by kernel_rfl
  go_enter Tryz.func153, Tryz.ntmps153
  go_wp2_with fail
  refine wp_loop_rounds 3 ?_
  rw [rounds_succ]
  have lV00 : _ < _ := V00.1
  obtain ⟨tV00_0, tV00_1, tV00_2, tV00_3, tV00_4⟩ := V00.2.1
  go_wp2_with fail
  refine wp_loop_rounds 1 ?_
  rw [rounds_succ]
  go_wp2_with fail
  refine (clear_to q00 A1 A2 A3 _ (by exact V00.2.2) (z00.mono (by decide)) (la14 H00.out)).mono ?_
  rintro e w1 ⟨rfl, hb1⟩
  clear lV00
  clear tV00_0 tV00_1 tV00_2 tV00_3 tV00_4
  replace c0 := keepc hb1 c0 hp
  replace c1 := keepc hb1 c1 hp
  replace hp := Nat.lt_of_lt_of_le hp hb1.size
  replace f5 := keepf hb1 f5 V11.1
  replace f6 := keepf hb1 f6 V11.1
  replace f7 := keepf hb1 f7 V11.1
  replace f8 := keepf hb1 f8 V11.1
  replace f9 := keepf hb1 f9 V11.1
  replace V00 := V00.to hb1
  replace V01 := V01.to hb1
  replace V10 := V10.to hb1
  replace V11 := V11.to hb1
  replace HW := Lib.hid (bstep HW HB0 hb1)
  clear hb1
  go_wp2_with fail
  refine wp_loop_rounds 2 ?_
  rw [rounds_succ]
  go_upto_region 16 with fail
  go_cut [8, 9] (fun v e wx => VarNum w1 (q10.div q00) v wx ∧ e = .int .i64 0)
  case first =>
    have lV00 : _ < _ := V00.1
    have lV10 : _ < _ := V10.1
    obtain ⟨tV00_0, tV00_1, tV00_2, tV00_3, tV00_4⟩ := V00.2.1
    obtain ⟨tV10_0, tV10_1, tV10_2, tV10_3, tV10_4⟩ := V10.2.1
    go_region_held3 (fun w' => w'.cell? ⟨p, 0, none⟩ = some (.slice (some ⟨r0, 0, none⟩) 2 a0) ∧ w'.cell? ⟨p, 1, none⟩ = some (.slice (some ⟨r1, 0, none⟩) 2 a1) ∧ w'.cell? ⟨r0, 0, none⟩ = some (.bool (sn (na q00))) ∧ w'.cell? ⟨r0, 1, none⟩ = some (.slice A1 (ln (ab (na q00))) (ln (ab (na q00)))) ∧ w'.cell? ⟨r0, 2, none⟩ = some (.bool (sn (nb q00))) ∧ w'.cell? ⟨r0, 3, none⟩ = some (.slice A2 (ln (ab (nb q00))) (ln (ab (nb q00)))) ∧ w'.cell? ⟨r0, 4, none⟩ = some (.slice A3 (ln (un q00)) (ln (un q00))) ∧ w'.cell? ⟨r1, 0, none⟩ = some (.bool (sn (na q10))) ∧ w'.cell? ⟨r1, 1, none⟩ = some (.slice C1 (ln (ab (na q10))) (ln (ab (na q10)))) ∧ w'.cell? ⟨r1, 2, none⟩ = some (.bool (sn (nb q10))) ∧ w'.cell? ⟨r1, 3, none⟩ = some (.slice C2 (ln (ab (nb q10))) (ln (ab (nb q10)))) ∧ w'.cell? ⟨r1, 4, none⟩ = some (.slice C3 (ln (un q10)) (ln (un q10)))) (first | with_reducible exact ⟨c0, c1, tV00_0, tV00_1, tV00_2, tV00_3, tV00_4, tV10_0, tV10_1, tV10_2, tV10_3, tV10_4⟩ | with_reducible exact ⟨(keepa c0 hp), (keepa c1 hp), (keepa tV00_0 lV00), (keepa tV00_1 lV00), (keepa tV00_2 lV00), (keepa tV00_3 lV00), (keepa tV00_4 lV00), (keepa tV10_0 lV10), (keepa tV10_1 lV10), (keepa tV10_2 lV10), (keepa tV10_3 lV10), (keepa tV10_4 lV10)⟩ | with_reducible exact ⟨(keepd c0), (keepd c1), (keepd tV00_0), (keepd tV00_1), (keepd tV00_2), (keepd tV00_3), (keepd tV00_4), (keepd tV10_0), (keepd tV10_1), (keepd tV10_2), (keepd tV10_3), (keepd tV10_4)⟩ | with_reducible exact ⟨(keepd (keepa c0 hp)), (keepd (keepa c1 hp)), (keepd (keepa tV00_0 lV00)), (keepd (keepa tV00_1 lV00)), (keepd (keepa tV00_2 lV00)), (keepd (keepa tV00_3 lV00)), (keepd (keepa tV00_4 lV00)), (keepd (keepa tV10_0 lV10)), (keepd (keepa tV10_1 lV10)), (keepd (keepa tV10_2 lV10)), (keepd (keepa tV10_3 lV10)), (keepd (keepa tV10_4 lV10))⟩ | (have _ := gx; with_reducible exact ⟨(keeps (keeps (keeps (keeps (keeps c0 gnp) gnp) gnp) gnp) gnp), (keeps (keeps (keeps (keeps (keeps c1 gnp) gnp) gnp) gnp) gnp), (keeps (keeps (keeps (keeps (keeps tV00_0 gn0) gn0) gn0) gn0) gn0), (keeps (keeps (keeps (keeps (keeps tV00_1 gn0) gn0) gn0) gn0) gn0), (keeps (keeps (keeps (keeps (keeps tV00_2 gn0) gn0) gn0) gn0) gn0), (keeps (keeps (keeps (keeps (keeps tV00_3 gn0) gn0) gn0) gn0) gn0), (keeps (keeps (keeps (keeps (keeps tV00_4 gn0) gn0) gn0) gn0) gn0), (keeps (keeps (keeps (keeps (keeps tV10_0 gn1) gn1) gn1) gn1) gn1), (keeps (keeps (keeps (keeps (keeps tV10_1 gn1) gn1) gn1) gn1) gn1), (keeps (keeps (keeps (keeps (keeps tV10_2 gn1) gn1) gn1) gn1) gn1), (keeps (keeps (keeps (keeps (keeps tV10_3 gn1) gn1) gn1) gn1) gn1), (keeps (keeps (keeps (keeps (keeps tV10_4 gn1) gn1) gn1) gn1) gn1)⟩)) (first
      | (go_at_call 32; go_loud (refine (div_num0 q10 q00 C1 C2 C3 A1 A2 A3 _ (by first | with_reducible exact V10.2.2 | with_reducible exact num3_alloc V10.2.2 | exact V10.2.2 | exact num3_alloc V10.2.2) (by first | with_reducible exact V00.2.2 | with_reducible exact num3_alloc V00.2.2 | exact V00.2.2 | exact num3_alloc V00.2.2) (z10.mono (by decide)) (z00.mono (by decide)) H00.out).mono ?_); rintro e w2 ⟨F1, F2, F3, rfl, hf, ha⟩; have hb2 : Below w1.heap.size w1 w2 := (by first | with_reducible exact ha | with_reducible exact undrew ha | with_reducible exact unalloc ha | with_reducible exact undrewalloc ha | with_reducible exact undrew (unalloc ha)); (try ((first | (with_reducible have gx := newvarN ha) | (with_reducible have gx := newvarN (undrew ha))); have gge := gx.1; have gnp := Nat.ne_of_lt (Nat.lt_of_lt_of_le hp gx.1); have gn0 := Nat.ne_of_lt (Nat.lt_of_lt_of_le V00.1 gx.1); have gn1 := Nat.ne_of_lt (Nat.lt_of_lt_of_le V10.1 gx.1))); have gB := Lib.hid hb2; clear lV00 lV10; clear tV00_0 tV00_1 tV00_2 tV00_3 tV00_4 tV10_0 tV10_1 tV10_2 tV10_3 tV10_4; replace c0 := keepc hb2 c0 hp; replace c1 := keepc hb2 c1 hp; replace hp := Nat.lt_of_lt_of_le hp hb2.size; replace f5 := keepf hb2 f5 V11.1; replace f6 := keepf hb2 f6 V11.1; replace f7 := keepf hb2 f7 V11.1; replace f8 := keepf hb2 f8 V11.1; replace f9 := keepf hb2 f9 V11.1; replace V00 := V00.to hb2; replace V01 := V01.to hb2; replace V10 := V10.to hb2; replace V11 := V11.to hb2; replace HW := Lib.hid (bstep HW HB0 hb2); clear hb2; have lV00 : _ < _ := V00.1; have lV10 : _ < _ := V10.1; obtain ⟨tV00_0, tV00_1, tV00_2, tV00_3, tV00_4⟩ := V00.2.1; obtain ⟨tV10_0, tV10_1, tV10_2, tV10_3, tV10_4⟩ := V10.2.1; clear ha; (try (have gy := gx; obtain ⟨_, _, ⟨ga0, ga1, ga2, ga3, ga4⟩, gf0, gf1, gf2, gf3, gf4⟩ := gy))))
    all_goals
      go_wp2_with fail
      go_meet
      refine ⟨?_, rfl⟩
      first | with_reducible exact varNum_set gB.out gx gge hf | with_reducible exact varNum_new gB.out hf
  case rest =>
    obtain ⟨⟨gf, F1, F2, F3, rfl, F5, hF3, hFg, hFl, hbF⟩, rfl⟩ := hcut
    have ngf : gf ≠ r1 := by have := V10.1; omega
    obtain ⟨w3, rfl⟩ : ∃ X : World, X = wc := ⟨_, rfl⟩
    have VF : VarAt w3 gf (q10.div q00) F1 F2 F3 := ⟨hFl, F5, hF3⟩
    replace c0 := keepc hbF c0 hp
    replace c1 := keepc hbF c1 hp
    replace hp := Nat.lt_of_lt_of_le hp hbF.size
    replace f5 := keepf hbF f5 V11.1
    replace f6 := keepf hbF f6 V11.1
    replace f7 := keepf hbF f7 V11.1
    replace f8 := keepf hbF f8 V11.1
    replace f9 := keepf hbF f9 V11.1
    replace V00 := V00.to hbF
    replace V01 := V01.to hbF
    replace V10 := V10.to hbF
    replace V11 := V11.to hbF
    replace HW := Lib.hid (bstep HW HB0 hbF)
    clear hbF
    clear F5 hF3 hFg hFl
    go_wp2_with fail
    refine wp_loop_rounds 2 ?_
    rw [rounds_succ]
    go_upto_block 7 with fail
    go_cut [] (fun wx => wx.cell? ⟨p, 0, none⟩ = some (.slice (some ⟨r0, 0, none⟩) 2 a0) ∧ wx.cell? ⟨p, 1, none⟩ = some (.slice (some ⟨r1, 0, none⟩) 2 a1) ∧ p < wx.heap.size ∧ VarAt wx r0 q00 A1 A2 A3 ∧ (∃ U1 U2 U3, At5 wx r1 (q11.sub ((q10.div q00).mul q01)) U1 U2 U3) ∧ Below B w wx)
    case first =>
      have lV01 : _ < _ := V01.1
      have lVF : _ < _ := VF.1
      obtain ⟨tV01_0, tV01_1, tV01_2, tV01_3, tV01_4⟩ := V01.2.1
      obtain ⟨tVF_0, tVF_1, tVF_2, tVF_3, tVF_4⟩ := VF.2.1
      go_wp2_with fail
      refine wp_region_held_drew (S := fun w' => w'.cell? ⟨p, 0, none⟩ = some (.slice (some ⟨r0, 0, none⟩) 2 a0) ∧ w'.cell? ⟨p, 1, none⟩ = some (.slice (some ⟨r1, 0, none⟩) 2 a1) ∧ w'.cell? ⟨r0, 5, none⟩ = some (.bool (sn (na q01))) ∧ w'.cell? ⟨r0, 6, none⟩ = some (.slice B1 (ln (ab (na q01))) (ln (ab (na q01)))) ∧ w'.cell? ⟨r0, 7, none⟩ = some (.bool (sn (nb q01))) ∧ w'.cell? ⟨r0, 8, none⟩ = some (.slice B2 (ln (ab (nb q01))) (ln (ab (nb q01)))) ∧ w'.cell? ⟨r0, 9, none⟩ = some (.slice B3 (ln (un q01)) (ln (un q01))) ∧ w'.cell? ⟨gf, 0, none⟩ = some (.bool (sn (na (q10.div q00)))) ∧ w'.cell? ⟨gf, 1, none⟩ = some (.slice F1 (ln (ab (na (q10.div q00)))) (ln (ab (na (q10.div q00))))) ∧ w'.cell? ⟨gf, 2, none⟩ = some (.bool (sn (nb (q10.div q00)))) ∧ w'.cell? ⟨gf, 3, none⟩ = some (.slice F2 (ln (ab (nb (q10.div q00)))) (ln (ab (nb (q10.div q00))))) ∧ w'.cell? ⟨gf, 4, none⟩ = some (.slice F3 (ln (un (q10.div q00))) (ln (un (q10.div q00))))) (by kernel_rfl) ?_ (fun hHeld => ?_)
      · exact ⟨c0, c1, tV01_0, tV01_1, tV01_2, tV01_3, tV01_4, tVF_0, tVF_1, tVF_2, tVF_3, tVF_4⟩
      refine takeH (i := 0) (d := 98) (v := ?v101) rfl rfl (by kernel_rfl) (by kernel_rfl) (by kernel_rfl) (fun _ _ _ h => h) (Or.inl ⟨by rfl, ?y101⟩) (by assumption) ?r101
      case y101 => (intro w hSw; (try dsimp only at hSw); go_simp; try with_reducible rfl)
      try simp only [Act.put, List.setIfInBounds_toArray, List.set_cons_zero, List.set_cons_succ]
      refine takeH (i := 1) (d := 99) (v := ?v102) rfl rfl (by kernel_rfl) (by kernel_rfl) (by kernel_rfl) (fun _ _ _ h => h) (Or.inl ⟨by rfl, ?y102⟩) (by assumption) ?r102
      case y102 => (intro w hSw; (try dsimp only at hSw); go_simp; try with_reducible rfl)
      try simp only [Act.put, List.setIfInBounds_toArray, List.set_cons_zero, List.set_cons_succ]
      refine takeH (i := 2) (d := 100) (v := ?v103) rfl rfl (by kernel_rfl) (by kernel_rfl) (by kernel_rfl) (fun _ _ _ h => h) (Or.inl ⟨by rfl, ?y103⟩) (by assumption) ?r103
      case y103 => (intro w hSw; (try dsimp only at hSw); go_simp; try with_reducible rfl)
      try simp only [Act.put, List.setIfInBounds_toArray, List.set_cons_zero, List.set_cons_succ]
      refine takeH (i := 3) (d := 101) (v := ?v104) rfl rfl (by kernel_rfl) (by kernel_rfl) (by kernel_rfl) (fun _ _ _ h => h) (Or.inl ⟨by rfl, ?y104⟩) (by assumption) ?r104
      case y104 => (intro w hSw; (try dsimp only at hSw); go_simp; try with_reducible rfl)
      try simp only [Act.put, List.setIfInBounds_toArray, List.set_cons_zero, List.set_cons_succ]
      refine takeH (i := 4) (d := 102) (v := ?v105) rfl rfl (by kernel_rfl) (by kernel_rfl) (by kernel_rfl) (fun _ _ _ h => h) (Or.inl ⟨by rfl, ?y105⟩) (by assumption) ?r105
      case y105 => (intro w hSw; (try dsimp only at hSw); go_simp; try with_reducible rfl)
      try simp only [Act.put, List.setIfInBounds_toArray, List.set_cons_zero, List.set_cons_succ]
      refine takeH (i := 5) (d := 103) (v := ?v106) rfl rfl (by kernel_rfl) (by kernel_rfl) (by kernel_rfl) (fun _ _ _ h => h) (Or.inl ⟨by rfl, ?y106⟩) (by assumption) ?r106
      case y106 => (intro w hSw; (try dsimp only at hSw); go_simp; try with_reducible rfl)
      try simp only [Act.put, List.setIfInBounds_toArray, List.set_cons_zero, List.set_cons_succ]
      refine takeH (i := 6) (d := 104) (v := ?v107) rfl rfl (by kernel_rfl) (by kernel_rfl) (by kernel_rfl) (fun _ _ _ h => h) (Or.inl ⟨by rfl, ?y107⟩) (by assumption) ?r107
      case y107 => (intro w hSw; (try dsimp only at hSw); go_simp; try with_reducible rfl)
      try simp only [Act.put, List.setIfInBounds_toArray, List.set_cons_zero, List.set_cons_succ]
      refine takeH (i := 7) (d := 105) (v := ?v108) rfl rfl (by kernel_rfl) (by kernel_rfl) (by kernel_rfl) (fun _ _ _ h => h) (Or.inl ⟨by rfl, ?y108⟩) (by assumption) ?r108
      case y108 => (intro w hSw; (try dsimp only at hSw); go_simp; try with_reducible rfl)
      try simp only [Act.put, List.setIfInBounds_toArray, List.set_cons_zero, List.set_cons_succ]
      refine takeH (i := 8) (d := 106) (v := ?v109) rfl rfl (by kernel_rfl) (by kernel_rfl) (by kernel_rfl) (fun _ _ _ h => h) (Or.inl ⟨by rfl, ?y109⟩) (by assumption) ?r109
      case y109 => (intro w hSw; (try dsimp only at hSw); go_simp; try with_reducible rfl)
      try simp only [Act.put, List.setIfInBounds_toArray, List.set_cons_zero, List.set_cons_succ]
      refine takeH (i := 9) (d := 107) (v := ?v110) rfl rfl (by kernel_rfl) (by kernel_rfl) (by kernel_rfl) (fun _ _ _ h => h) (Or.inl ⟨by rfl, ?y110⟩) (by assumption) ?r110
      case y110 => (intro w hSw; (try dsimp only at hSw); go_simp; try with_reducible rfl)
      try simp only [Act.put, List.setIfInBounds_toArray, List.set_cons_zero, List.set_cons_succ]
      refine takeH (i := 10) (d := 108) (v := ?v111) rfl rfl (by kernel_rfl) (by kernel_rfl) (by kernel_rfl) (fun _ _ _ h => h) (Or.inl ⟨by rfl, ?y111⟩) (by assumption) ?r111
      case y111 => (intro w hSw; (try dsimp only at hSw); go_simp; try with_reducible rfl)
      try simp only [Act.put, List.setIfInBounds_toArray, List.set_cons_zero, List.set_cons_succ]
      refine takeH (i := 13) (d := 111) (v := ?v112) rfl rfl (by kernel_rfl) (by kernel_rfl) (by kernel_rfl) (fun _ _ _ h => h) (Or.inl ⟨by rfl, ?y112⟩) (by assumption) ?r112
      case y112 => (intro w hSw; (try dsimp only at hSw); go_simp; try with_reducible rfl)
      try simp only [Act.put, List.setIfInBounds_toArray, List.set_cons_zero, List.set_cons_succ]
      refine takeH (i := 14) (d := 112) (v := ?v113) rfl rfl (by kernel_rfl) (by kernel_rfl) (by kernel_rfl) (fun _ _ _ h => h) (Or.inl ⟨by rfl, ?y113⟩) (by assumption) ?r113
      case y113 => (intro w hSw; (try dsimp only at hSw); go_simp; try with_reducible rfl)
      try simp only [Act.put, List.setIfInBounds_toArray, List.set_cons_zero, List.set_cons_succ]
      refine takeH (i := 15) (d := 113) (v := ?v114) rfl rfl (by kernel_rfl) (by kernel_rfl) (by kernel_rfl) (fun _ _ _ h => h) (Or.inl ⟨by rfl, ?y114⟩) (by assumption) ?r114
      case y114 => (intro w hSw; (try dsimp only at hSw); go_simp; try with_reducible rfl)
      try simp only [Act.put, List.setIfInBounds_toArray, List.set_cons_zero, List.set_cons_succ]
      refine takeH (i := 16) (d := 114) (v := ?v115) rfl rfl (by kernel_rfl) (by kernel_rfl) (by kernel_rfl) (fun _ _ _ h => h) (Or.inl ⟨by rfl, ?y115⟩) (by assumption) ?r115
      case y115 => (intro w hSw; (try dsimp only at hSw); go_simp; try with_reducible rfl)
      try simp only [Act.put, List.setIfInBounds_toArray, List.set_cons_zero, List.set_cons_succ]
      refine takeH (i := 17) (d := 115) (v := ?v116) rfl rfl (by kernel_rfl) (by kernel_rfl) (by kernel_rfl) (fun _ _ _ h => h) (Or.inl ⟨by rfl, ?y116⟩) (by assumption) ?r116
      case y116 => (intro w hSw; (try dsimp only at hSw); go_simp; try with_reducible rfl)
      try simp only [Act.put, List.setIfInBounds_toArray, List.set_cons_zero, List.set_cons_succ]
      refine takeH (i := 18) (d := 116) (v := ?v117) rfl rfl (by kernel_rfl) (by kernel_rfl) (by kernel_rfl) (fun _ _ _ h => h) (Or.inl ⟨by rfl, ?y117⟩) (by assumption) ?r117
      case y117 => (intro w hSw; (try dsimp only at hSw); go_simp; try with_reducible rfl)
      try simp only [Act.put, List.setIfInBounds_toArray, List.set_cons_zero, List.set_cons_succ]
      refine takeH (i := 19) (d := 117) (v := ?v118) rfl rfl (by kernel_rfl) (by kernel_rfl) (by kernel_rfl) (fun _ _ _ h => h) (Or.inl ⟨by rfl, ?y118⟩) (by assumption) ?r118
      case y118 => (intro w hSw; (try dsimp only at hSw); go_simp; try with_reducible rfl)
      try simp only [Act.put, List.setIfInBounds_toArray, List.set_cons_zero, List.set_cons_succ]
      refine takeH (i := 20) (d := 118) (v := ?v119) rfl rfl (by kernel_rfl) (by kernel_rfl) (by kernel_rfl) (fun _ _ _ h => h) (Or.inl ⟨by rfl, ?y119⟩) (by assumption) ?r119
      case y119 => (intro w hSw; (try dsimp only at hSw); go_simp; try with_reducible rfl)
      try simp only [Act.put, List.setIfInBounds_toArray, List.set_cons_zero, List.set_cons_succ]
      refine takeH (i := 21) (d := 119) (v := ?v120) rfl rfl (by kernel_rfl) (by kernel_rfl) (by kernel_rfl) (fun _ _ _ h => h) (Or.inl ⟨by rfl, ?y120⟩) (by assumption) ?r120
      case y120 => (intro w hSw; (try dsimp only at hSw); go_simp; try with_reducible rfl)
      try simp only [Act.put, List.setIfInBounds_toArray, List.set_cons_zero, List.set_cons_succ]
      clear lV01 lVF
      clear tV01_0 tV01_1 tV01_2 tV01_3 tV01_4 tVF_0 tVF_1 tVF_2 tVF_3 tVF_4
      have lV01 : _ < _ := V01.1
      have lVF : _ < _ := VF.1
      have lV11 : _ < _ := V11.1
      have lV10 : _ < _ := V10.1
      obtain ⟨tV01_0, tV01_1, tV01_2, tV01_3, tV01_4⟩ := V01.2.1
      obtain ⟨tVF_0, tVF_1, tVF_2, tVF_3, tVF_4⟩ := VF.2.1
      obtain ⟨tV11_0, tV11_1, tV11_2, tV11_3, tV11_4⟩ := V11.2.1
      obtain ⟨tV10_0, tV10_1, tV10_2, tV10_3, tV10_4⟩ := V10.2.1
      have zf : sz 10 (q10.div q00) := sz_div (by decide) z10 z00 H00.out
      refine wpAnyH_ready (rs := [11, 22]) (by kernel_rfl) (by simp) (AllReadyH.cons rfl (fun K hK => ?_) (AllReadyH.cons rfl (fun K hK => ?_) AllReadyH.nil))
      · go_simp
        refine hK.out _ _ ?_ (fun hHeld => ?_)
        · exact ⟨c0, c1, tV01_0, tV01_1, tV01_2, tV01_3, tV01_4, tVF_0, tVF_1, tVF_2, tVF_3, tVF_4⟩
        clear hK K
        try simp only [Act.put, List.setIfInBounds_toArray, List.set_cons_zero, List.set_cons_succ]
        refine takeH (i := 12) (d := 110) (v := ?v121) rfl rfl (by kernel_rfl) (by kernel_rfl) (by kernel_rfl) (fun _ _ _ h => h) (Or.inl ⟨by rfl, ?y121⟩) (by assumption) ?r121
        case y121 => (intro w hSw; (try dsimp only at hSw); go_simp; try with_reducible rfl)
        try simp only [Act.put, List.setIfInBounds_toArray, List.set_cons_zero, List.set_cons_succ]
        refine wpAnyH_ready (rs := [22]) (by kernel_rfl) (by simp) (AllReadyH.cons rfl (fun K hK => ?_) AllReadyH.nil)
        go_simp
        refine (mul_num (q10.div q00) q01 F1 F2 F3 B1 B2 B3 _ (by exact VF.2.2) (by exact V01.2.2) (zf.mono (by decide)) (z01.mono (by decide))).mono ?_
        rintro e w6 ⟨M1, M2, M3, rfl, hM, hb6⟩
        replace hb6 := undrew hb6
        clear lV01 lVF lV11 lV10
        clear tV01_0 tV01_1 tV01_2 tV01_3 tV01_4 tVF_0 tVF_1 tVF_2 tVF_3 tVF_4 tV11_0 tV11_1 tV11_2 tV11_3 tV11_4 tV10_0 tV10_1 tV10_2 tV10_3 tV10_4
        replace c0 := keepc hb6 c0 hp
        replace c1 := keepc hb6 c1 hp
        replace hp := Nat.lt_of_lt_of_le hp hb6.size
        replace f5 := keepf hb6 f5 V11.1
        replace f6 := keepf hb6 f6 V11.1
        replace f7 := keepf hb6 f7 V11.1
        replace f8 := keepf hb6 f8 V11.1
        replace f9 := keepf hb6 f9 V11.1
        replace V00 := V00.to hb6
        replace V01 := V01.to hb6
        replace V10 := V10.to hb6
        replace V11 := V11.to hb6
        replace VF := VF.to hb6
        replace HW := Lib.hid (bstep HW HB0 hb6)
        clear hb6
        have lV01 : _ < _ := V01.1
        have lVF : _ < _ := VF.1
        have lV11 : _ < _ := V11.1
        have lV10 : _ < _ := V10.1
        obtain ⟨tV01_0, tV01_1, tV01_2, tV01_3, tV01_4⟩ := V01.2.1
        obtain ⟨tVF_0, tVF_1, tVF_2, tVF_3, tVF_4⟩ := VF.2.1
        obtain ⟨tV11_0, tV11_1, tV11_2, tV11_3, tV11_4⟩ := V11.2.1
        obtain ⟨tV10_0, tV10_1, tV10_2, tV10_3, tV10_4⟩ := V10.2.1
        refine hK.out _ _ ?_ (fun hHeld => ?_)
        · exact ⟨c0, c1, tV01_0, tV01_1, tV01_2, tV01_3, tV01_4, tVF_0, tVF_1, tVF_2, tVF_3, tVF_4⟩
        clear hK K
        try simp only [Act.put, List.setIfInBounds_toArray, List.set_cons_zero, List.set_cons_succ]
        refine wpAnyH_ready (rs := [23]) (by kernel_rfl) (by simp) (AllReadyH.cons rfl (fun K hK => ?_) AllReadyH.nil)
        go_simp
        refine (sub_num q11 ((q10.div q00).mul q01) E1 E2 E3 M1 M2 M3 _ (by exact V11.2.2) (by exact hM) (z11.mono (by decide)) ((sz_mul (zf.mono (by decide : 10 ≤ 10)) (z01.mono (by decide : 2 ≤ 10))).mono (by decide))).mono ?_
        rintro e w7 ⟨U1, U2, U3, rfl, hU, hb7⟩
        clear lV01 lVF lV11 lV10
        clear tV01_0 tV01_1 tV01_2 tV01_3 tV01_4 tVF_0 tVF_1 tVF_2 tVF_3 tVF_4 tV11_0 tV11_1 tV11_2 tV11_3 tV11_4 tV10_0 tV10_1 tV10_2 tV10_3 tV10_4
        replace c0 := keepc hb7 c0 hp
        replace c1 := keepc hb7 c1 hp
        replace hp := Nat.lt_of_lt_of_le hp hb7.size
        replace f5 := keepf hb7 f5 V11.1
        replace f6 := keepf hb7 f6 V11.1
        replace f7 := keepf hb7 f7 V11.1
        replace f8 := keepf hb7 f8 V11.1
        replace f9 := keepf hb7 f9 V11.1
        replace V00 := V00.to hb7
        replace V01 := V01.to hb7
        replace V10 := V10.to hb7
        replace V11 := V11.to hb7
        replace VF := VF.to hb7
        replace HW := Lib.hid (bstep HW HB0 hb7)
        clear hb7
        have lV01 : _ < _ := V01.1
        have lVF : _ < _ := VF.1
        have lV11 : _ < _ := V11.1
        have lV10 : _ < _ := V10.1
        obtain ⟨tV01_0, tV01_1, tV01_2, tV01_3, tV01_4⟩ := V01.2.1
        obtain ⟨tVF_0, tVF_1, tVF_2, tVF_3, tVF_4⟩ := VF.2.1
        obtain ⟨tV11_0, tV11_1, tV11_2, tV11_3, tV11_4⟩ := V11.2.1
        obtain ⟨tV10_0, tV10_1, tV10_2, tV10_3, tV10_4⟩ := V10.2.1
        clear hM
        refine hK.out _ _ ?_ (fun hHeld => ?_)
        · exact ⟨c0, c1, tV01_0, tV01_1, tV01_2, tV01_3, tV01_4, tVF_0, tVF_1, tVF_2, tVF_3, tVF_4⟩
        clear hK K
        try simp only [Act.put, List.setIfInBounds_toArray, List.set_cons_zero, List.set_cons_succ]
        refine takeH (i := 24) (d := 122) (v := ?v122) rfl rfl (by kernel_rfl) (by kernel_rfl) (by kernel_rfl) (fun _ _ _ h => h) (Or.inl ⟨by rfl, ?y122⟩) (by assumption) ?r122
        case y122 => (intro w hSw; (try dsimp only at hSw); go_simp; try with_reducible rfl)
        try simp only [Act.put, List.setIfInBounds_toArray, List.set_cons_zero, List.set_cons_succ]
        refine wpAnyH_ready (rs := [25]) (by kernel_rfl) (by simp) (AllReadyH.cons rfl (fun K hK => ?_) AllReadyH.nil)
        go_simp
        obtain ⟨Y, hY⟩ : ∃ X : World, X = set55 w7 r1 (q11.sub ((q10.div q00).mul q01)) U1 U2 U3 := ⟨_, rfl⟩
        have hw : set55 w7 r1 (q11.sub ((q10.div q00).mul q01)) U1 U2 U3 = Y := hY.symm
        unfold set55 at hw
        rw [hw]
        clear hw
        replace c0 := set55_cell (q := (q11.sub ((q10.div q00).mul q01))) (A1 := U1) (A2 := U2) (A3 := U3) c0 (.inl np)
        rw [← hY] at c0
        replace c1 := set55_cell (q := (q11.sub ((q10.div q00).mul q01))) (A1 := U1) (A2 := U2) (A3 := U3) c1 (.inl np)
        rw [← hY] at c1
        have n01' : r0 ≠ r1 := n01
        replace tV01_0 := set55_cell (q := (q11.sub ((q10.div q00).mul q01))) (A1 := U1) (A2 := U2) (A3 := U3) tV01_0 (.inl n01)
        rw [← hY] at tV01_0
        replace tV01_1 := set55_cell (q := (q11.sub ((q10.div q00).mul q01))) (A1 := U1) (A2 := U2) (A3 := U3) tV01_1 (.inl n01)
        rw [← hY] at tV01_1
        replace tV01_2 := set55_cell (q := (q11.sub ((q10.div q00).mul q01))) (A1 := U1) (A2 := U2) (A3 := U3) tV01_2 (.inl n01)
        rw [← hY] at tV01_2
        replace tV01_3 := set55_cell (q := (q11.sub ((q10.div q00).mul q01))) (A1 := U1) (A2 := U2) (A3 := U3) tV01_3 (.inl n01)
        rw [← hY] at tV01_3
        replace tV01_4 := set55_cell (q := (q11.sub ((q10.div q00).mul q01))) (A1 := U1) (A2 := U2) (A3 := U3) tV01_4 (.inl n01)
        rw [← hY] at tV01_4
        replace tVF_0 := set55_cell (q := (q11.sub ((q10.div q00).mul q01))) (A1 := U1) (A2 := U2) (A3 := U3) tVF_0 (.inl ngf)
        rw [← hY] at tVF_0
        replace tVF_1 := set55_cell (q := (q11.sub ((q10.div q00).mul q01))) (A1 := U1) (A2 := U2) (A3 := U3) tVF_1 (.inl ngf)
        rw [← hY] at tVF_1
        replace tVF_2 := set55_cell (q := (q11.sub ((q10.div q00).mul q01))) (A1 := U1) (A2 := U2) (A3 := U3) tVF_2 (.inl ngf)
        rw [← hY] at tVF_2
        replace tVF_3 := set55_cell (q := (q11.sub ((q10.div q00).mul q01))) (A1 := U1) (A2 := U2) (A3 := U3) tVF_3 (.inl ngf)
        rw [← hY] at tVF_3
        replace tVF_4 := set55_cell (q := (q11.sub ((q10.div q00).mul q01))) (A1 := U1) (A2 := U2) (A3 := U3) tVF_4 (.inl ngf)
        rw [← hY] at tVF_4
        have G0 := set55_var (q := (q11.sub ((q10.div q00).mul q01))) (A1 := U1) (A2 := U2) (A3 := U3) V00 tV10_0
        rw [← hY] at G0
        have G1 := set55_at5 lV11 hU tV10_0 tV11_0 tV11_1 tV11_2 tV11_3 tV11_4
        rw [← hY] at G1
        have G2 : Below B w Y := by rw [hY]; exact set55_below HW.out HBr.out
        have G3 : p < Y.heap.size := by rw [hY, set55_size]; exact hp
        clear hY
        refine hK.out _ _ ?_ (fun hHeld => ?_)
        · exact ⟨c0, c1, tV01_0, tV01_1, tV01_2, tV01_3, tV01_4, tVF_0, tVF_1, tVF_2, tVF_3, tVF_4⟩
        clear hK K
        try simp only [Act.put, List.setIfInBounds_toArray, List.set_cons_zero, List.set_cons_succ]
        refine wpAnyH_done (by kernel_rfl) ?_ _
        go_wp2_with fail
        go_meet
        exact ⟨c0, c1, G3, G0, ⟨U1, U2, U3, G1⟩, G2⟩
      · go_simp
        refine (mul_num (q10.div q00) q01 F1 F2 F3 B1 B2 B3 _ (by exact VF.2.2) (by exact V01.2.2) (zf.mono (by decide)) (z01.mono (by decide))).mono ?_
        rintro e w6 ⟨M1, M2, M3, rfl, hM, hb6⟩
        replace hb6 := undrew hb6
        clear lV01 lVF lV11 lV10
        clear tV01_0 tV01_1 tV01_2 tV01_3 tV01_4 tVF_0 tVF_1 tVF_2 tVF_3 tVF_4 tV11_0 tV11_1 tV11_2 tV11_3 tV11_4 tV10_0 tV10_1 tV10_2 tV10_3 tV10_4
        replace c0 := keepc hb6 c0 hp
        replace c1 := keepc hb6 c1 hp
        replace hp := Nat.lt_of_lt_of_le hp hb6.size
        replace f5 := keepf hb6 f5 V11.1
        replace f6 := keepf hb6 f6 V11.1
        replace f7 := keepf hb6 f7 V11.1
        replace f8 := keepf hb6 f8 V11.1
        replace f9 := keepf hb6 f9 V11.1
        replace V00 := V00.to hb6
        replace V01 := V01.to hb6
        replace V10 := V10.to hb6
        replace V11 := V11.to hb6
        replace VF := VF.to hb6
        replace HW := Lib.hid (bstep HW HB0 hb6)
        clear hb6
        have lV01 : _ < _ := V01.1
        have lVF : _ < _ := VF.1
        have lV11 : _ < _ := V11.1
        have lV10 : _ < _ := V10.1
        obtain ⟨tV01_0, tV01_1, tV01_2, tV01_3, tV01_4⟩ := V01.2.1
        obtain ⟨tVF_0, tVF_1, tVF_2, tVF_3, tVF_4⟩ := VF.2.1
        obtain ⟨tV11_0, tV11_1, tV11_2, tV11_3, tV11_4⟩ := V11.2.1
        obtain ⟨tV10_0, tV10_1, tV10_2, tV10_3, tV10_4⟩ := V10.2.1
        refine hK.out _ _ ?_ (fun hHeld => ?_)
        · exact ⟨c0, c1, tV01_0, tV01_1, tV01_2, tV01_3, tV01_4, tVF_0, tVF_1, tVF_2, tVF_3, tVF_4⟩
        clear hK K
        try simp only [Act.put, List.setIfInBounds_toArray, List.set_cons_zero, List.set_cons_succ]
        refine wpAnyH_ready (rs := [11]) (by kernel_rfl) (by simp) (AllReadyH.cons rfl (fun K hK => ?_) AllReadyH.nil)
        go_simp
        refine hK.out _ _ ?_ (fun hHeld => ?_)
        · exact ⟨c0, c1, tV01_0, tV01_1, tV01_2, tV01_3, tV01_4, tVF_0, tVF_1, tVF_2, tVF_3, tVF_4⟩
        clear hK K
        try simp only [Act.put, List.setIfInBounds_toArray, List.set_cons_zero, List.set_cons_succ]
        refine takeH (i := 12) (d := 110) (v := ?v123) rfl rfl (by kernel_rfl) (by kernel_rfl) (by kernel_rfl) (fun _ _ _ h => h) (Or.inl ⟨by rfl, ?y123⟩) (by assumption) ?r123
        case y123 => (intro w hSw; (try dsimp only at hSw); go_simp; try with_reducible rfl)
        try simp only [Act.put, List.setIfInBounds_toArray, List.set_cons_zero, List.set_cons_succ]
        refine wpAnyH_ready (rs := [23]) (by kernel_rfl) (by simp) (AllReadyH.cons rfl (fun K hK => ?_) AllReadyH.nil)
        go_simp
        refine (sub_num q11 ((q10.div q00).mul q01) E1 E2 E3 M1 M2 M3 _ (by exact V11.2.2) (by exact hM) (z11.mono (by decide)) ((sz_mul (zf.mono (by decide : 10 ≤ 10)) (z01.mono (by decide : 2 ≤ 10))).mono (by decide))).mono ?_
        rintro e w7 ⟨U1, U2, U3, rfl, hU, hb7⟩
        clear lV01 lVF lV11 lV10
        clear tV01_0 tV01_1 tV01_2 tV01_3 tV01_4 tVF_0 tVF_1 tVF_2 tVF_3 tVF_4 tV11_0 tV11_1 tV11_2 tV11_3 tV11_4 tV10_0 tV10_1 tV10_2 tV10_3 tV10_4
        replace c0 := keepc hb7 c0 hp
        replace c1 := keepc hb7 c1 hp
        replace hp := Nat.lt_of_lt_of_le hp hb7.size
        replace f5 := keepf hb7 f5 V11.1
        replace f6 := keepf hb7 f6 V11.1
        replace f7 := keepf hb7 f7 V11.1
        replace f8 := keepf hb7 f8 V11.1
        replace f9 := keepf hb7 f9 V11.1
        replace V00 := V00.to hb7
        replace V01 := V01.to hb7
        replace V10 := V10.to hb7
        replace V11 := V11.to hb7
        replace VF := VF.to hb7
        replace HW := Lib.hid (bstep HW HB0 hb7)
        clear hb7
        have lV01 : _ < _ := V01.1
        have lVF : _ < _ := VF.1
        have lV11 : _ < _ := V11.1
        have lV10 : _ < _ := V10.1
        obtain ⟨tV01_0, tV01_1, tV01_2, tV01_3, tV01_4⟩ := V01.2.1
        obtain ⟨tVF_0, tVF_1, tVF_2, tVF_3, tVF_4⟩ := VF.2.1
        obtain ⟨tV11_0, tV11_1, tV11_2, tV11_3, tV11_4⟩ := V11.2.1
        obtain ⟨tV10_0, tV10_1, tV10_2, tV10_3, tV10_4⟩ := V10.2.1
        clear hM
        refine hK.out _ _ ?_ (fun hHeld => ?_)
        · exact ⟨c0, c1, tV01_0, tV01_1, tV01_2, tV01_3, tV01_4, tVF_0, tVF_1, tVF_2, tVF_3, tVF_4⟩
        clear hK K
        try simp only [Act.put, List.setIfInBounds_toArray, List.set_cons_zero, List.set_cons_succ]
        refine takeH (i := 24) (d := 122) (v := ?v124) rfl rfl (by kernel_rfl) (by kernel_rfl) (by kernel_rfl) (fun _ _ _ h => h) (Or.inl ⟨by rfl, ?y124⟩) (by assumption) ?r124
        case y124 => (intro w hSw; (try dsimp only at hSw); go_simp; try with_reducible rfl)
        try simp only [Act.put, List.setIfInBounds_toArray, List.set_cons_zero, List.set_cons_succ]
        refine wpAnyH_ready (rs := [25]) (by kernel_rfl) (by simp) (AllReadyH.cons rfl (fun K hK => ?_) AllReadyH.nil)
        go_simp
        obtain ⟨Y, hY⟩ : ∃ X : World, X = set55 w7 r1 (q11.sub ((q10.div q00).mul q01)) U1 U2 U3 := ⟨_, rfl⟩
        have hw : set55 w7 r1 (q11.sub ((q10.div q00).mul q01)) U1 U2 U3 = Y := hY.symm
        unfold set55 at hw
        rw [hw]
        clear hw
        replace c0 := set55_cell (q := (q11.sub ((q10.div q00).mul q01))) (A1 := U1) (A2 := U2) (A3 := U3) c0 (.inl np)
        rw [← hY] at c0
        replace c1 := set55_cell (q := (q11.sub ((q10.div q00).mul q01))) (A1 := U1) (A2 := U2) (A3 := U3) c1 (.inl np)
        rw [← hY] at c1
        have n01' : r0 ≠ r1 := n01
        replace tV01_0 := set55_cell (q := (q11.sub ((q10.div q00).mul q01))) (A1 := U1) (A2 := U2) (A3 := U3) tV01_0 (.inl n01)
        rw [← hY] at tV01_0
        replace tV01_1 := set55_cell (q := (q11.sub ((q10.div q00).mul q01))) (A1 := U1) (A2 := U2) (A3 := U3) tV01_1 (.inl n01)
        rw [← hY] at tV01_1
        replace tV01_2 := set55_cell (q := (q11.sub ((q10.div q00).mul q01))) (A1 := U1) (A2 := U2) (A3 := U3) tV01_2 (.inl n01)
        rw [← hY] at tV01_2
        replace tV01_3 := set55_cell (q := (q11.sub ((q10.div q00).mul q01))) (A1 := U1) (A2 := U2) (A3 := U3) tV01_3 (.inl n01)
        rw [← hY] at tV01_3
        replace tV01_4 := set55_cell (q := (q11.sub ((q10.div q00).mul q01))) (A1 := U1) (A2 := U2) (A3 := U3) tV01_4 (.inl n01)
        rw [← hY] at tV01_4
        replace tVF_0 := set55_cell (q := (q11.sub ((q10.div q00).mul q01))) (A1 := U1) (A2 := U2) (A3 := U3) tVF_0 (.inl ngf)
        rw [← hY] at tVF_0
        replace tVF_1 := set55_cell (q := (q11.sub ((q10.div q00).mul q01))) (A1 := U1) (A2 := U2) (A3 := U3) tVF_1 (.inl ngf)
        rw [← hY] at tVF_1
        replace tVF_2 := set55_cell (q := (q11.sub ((q10.div q00).mul q01))) (A1 := U1) (A2 := U2) (A3 := U3) tVF_2 (.inl ngf)
        rw [← hY] at tVF_2
        replace tVF_3 := set55_cell (q := (q11.sub ((q10.div q00).mul q01))) (A1 := U1) (A2 := U2) (A3 := U3) tVF_3 (.inl ngf)
        rw [← hY] at tVF_3
        replace tVF_4 := set55_cell (q := (q11.sub ((q10.div q00).mul q01))) (A1 := U1) (A2 := U2) (A3 := U3) tVF_4 (.inl ngf)
        rw [← hY] at tVF_4
        have G0 := set55_var (q := (q11.sub ((q10.div q00).mul q01))) (A1 := U1) (A2 := U2) (A3 := U3) V00 tV10_0
        rw [← hY] at G0
        have G1 := set55_at5 lV11 hU tV10_0 tV11_0 tV11_1 tV11_2 tV11_3 tV11_4
        rw [← hY] at G1
        have G2 : Below B w Y := by rw [hY]; exact set55_below HW.out HBr.out
        have G3 : p < Y.heap.size := by rw [hY, set55_size]; exact hp
        clear hY
        refine hK.out _ _ ?_ (fun hHeld => ?_)
        · exact ⟨c0, c1, tV01_0, tV01_1, tV01_2, tV01_3, tV01_4, tVF_0, tVF_1, tVF_2, tVF_3, tVF_4⟩
        clear hK K
        try simp only [Act.put, List.setIfInBounds_toArray, List.set_cons_zero, List.set_cons_succ]
        refine wpAnyH_done (by kernel_rfl) ?_ _
        go_wp2_with fail
        go_meet
        exact ⟨c0, c1, G3, G0, ⟨U1, U2, U3, G1⟩, G2⟩
    case rest =>
      clear V00 V01 V10 V11 VF HW c0 c1 hp f5 f6 f7 f8 f9
      obtain ⟨c0, c1, hp, V00, ⟨U1, U2, U3, V11⟩, hB⟩ := hcut
      have HW := Lib.hid hB
      clear hB
      obtain ⟨tV11_0, tV11_1, tV11_2, tV11_3, tV11_4⟩ := V11.2.1
      go_wp2_with fail
      rw [rounds_succ]
      go_wp2_with fail
      rw [rounds_succ]
      go_wp2_with fail
      rw [rounds_succ]
      go_wp2_with fail
      refine wp_loop_rounds 1 ?_
      rw [rounds_succ]
      go_wp2_with fail
      refine (clear_to (q11.sub ((q10.div q00).mul q01)) U1 U2 U3 _ (by exact V11.2.2) ((sz_sub (z11.mono (by decide : 2 ≤ 21)) (sz_mul (sz_div (by decide) z10 z00 H00.out) (z01.mono (by decide : 2 ≤ 10)))).mono (by decide)) (la14 H11.out)).mono ?_
      rintro e w8 ⟨rfl, hb8⟩
      clear tV11_0 tV11_1 tV11_2 tV11_3 tV11_4
      replace c0 := keepc hb8 c0 hp
      replace c1 := keepc hb8 c1 hp
      replace V00 := V00.to hb8
      replace V11 := V11.to hb8
      replace HW := Lib.hid (bstep HW HB0 hb8)
      clear hb8
      go_wp2_with fail
      refine wp_loop_rounds 1 ?_
      rw [rounds_succ]
      go_wp2_with fail
      rw [rounds_succ]
      go_wp2_with fail
      refine bodyPost_ret (v := .tuple #[.int .i64 0, .int .i64 (-1)]) (by simp [results, Tryz.results153, go_sem]) rfl ?_
      exact ⟨rfl, c0, c1, V00, ⟨U1, U2, U3, V11⟩, HW.out⟩
end Go.Proofs.YtgpmlhpgdalheaaGreat
