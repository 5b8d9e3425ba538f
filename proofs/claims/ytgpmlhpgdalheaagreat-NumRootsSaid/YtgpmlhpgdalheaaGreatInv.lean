/- A region that draws its order, by an invariant over the set of what has come up. -/
import Derived.Test.YtgpmlhpgdalheaaGreatOf
namespace Go.Proofs.YtgpmlhpgdalheaaGreat
open Go.RowKit Pl
set_option linter.unusedVariables false
set_option linter.unusedSimpArgs false

/-- Operation k has come up. -/
def on (l : Array Bool) (k : Nat) : Bool := l.getD k false
theorem on_ne {l : Array Bool} {i k : Nat} (h : on (l.setIfInBounds i true) k = true) (hn : k ≠ i) : on l k = true := by
  unfold on at *
  rw [Array.getD_eq_getD_getElem?, Array.getElem?_setIfInBounds_ne (by omega)] at h
  rw [Array.getD_eq_getD_getElem?]; exact h
theorem on_mono {l : Array Bool} {i k : Nat} (h : on l k = true) : on (l.setIfInBounds i true) k = true := by
  unfold on at *
  rw [Array.getD_eq_getD_getElem?] at *
  by_cases hk : k < l.size
  · have hk2 : k < (l.setIfInBounds i true).size := by simpa using hk
    rw [Array.getElem?_eq_getElem hk, Option.getD_some] at h
    rw [Array.getElem?_eq_getElem hk2, Option.getD_some, Array.getElem_setIfInBounds]
    split
    · rfl
    · exact h
  · rw [Array.getElem?_eq_none (by omega)] at h; cases h
theorem off {l : Array Bool} {i : Nat} (h : l.getD i true = false) : ¬ on l i = true := by
  unfold on
  rw [Array.getD_eq_getD_getElem?] at *
  by_cases hk : i < l.size
  · rw [Array.getElem?_eq_getElem hk, Option.getD_some] at *; rw [h]; simp
  · rw [Array.getElem?_eq_none (by omega)] at h; cases h
theorem not_ready {md : Region.Mode} {ops : Array Oper} {l : Array Bool} {i : Nat} {o : Oper} (hr : Region.ready md ops l = []) (hz : l.size = ops.size) (ho : ops[i]? = some o) (ha : o.after.all (fun e => !Region.binds md e || on l e.on) = true) : on l i = true := by
  by_cases hk : on l i = true
  · exact hk
  · exfalso
    have hi : i < ops.size := (Array.getElem?_eq_some_iff.1 ho).1
    have : i ∈ Region.ready md ops l := by
      unfold Region.ready
      simp only [List.mem_filter, List.mem_range, Bool.and_eq_true, Bool.not_eq_true']
      refine ⟨hi, ?_, ?_⟩
      · unfold on at hk
        rw [Array.getD_eq_getD_getElem?] at *
        rw [Array.getElem?_eq_getElem (by omega), Option.getD_some] at *
        simpa using hk
      · rw [ho]; exact ha
    rw [hr] at this
    cases this
theorem ready_pre {md : Region.Mode} {ops : Array Oper} {l : Array Bool} {i : Nat} (h : i ∈ Region.ready md ops l) :
    i < ops.size ∧ l.getD i true = false ∧ ∀ o, ops[i]? = some o → o.after.all (fun e => !Region.binds md e || on l e.on) = true := by
  unfold Region.ready at h
  simp only [List.mem_filter, List.mem_range, Bool.and_eq_true, Bool.not_eq_true'] at h
  refine ⟨h.1, h.2.1, fun o ho => ?_⟩
  have := h.2.2
  rw [ho] at this
  exact this
theorem wpAny_inv {P : Program} {md : Region.Mode} {ops : Array Oper} {Q : Exit → Act → World → Prop} (I : Array Bool → Act → World → Prop)
    (hstep : ∀ l a w i, i ∈ Region.ready md ops l → I l a w → wpOp P ops Q i (fun a w => I (l.setIfInBounds i true) a w) a w)
    (hend : ∀ l a w, Region.ready md ops l = [] → I l a w → Q .normal a w) :
    ∀ fuel l a w, l.count false ≤ fuel → I l a w → wpAny P md ops Q fuel l a w := by
  have nil : ∀ l : Array Bool, l.count false = 0 → Region.ready md ops l = [] := by
    intro l h
    rw [List.eq_nil_iff_forall_not_mem]
    intro i hi
    have h1 := (ready_pre hi).2.1
    rw [Array.getD_eq_getD_getElem?] at h1
    by_cases hl : i < l.size
    · rw [Array.getElem?_eq_getElem hl, Option.getD_some] at h1
      have : false ∈ l := h1 ▸ Array.getElem_mem hl
      exact absurd h (Nat.ne_of_gt (Array.count_pos_iff.2 this))
    · rw [Array.getElem?_eq_none (by omega)] at h1; cases h1
  intro fuel
  induction fuel with
  | zero => intro l a w hc hI; exact ⟨nil l (by omega), hend l a w (nil l (by omega)) hI⟩
  | succ n ih =>
    intro l a w hc hI
    refine ⟨fun h => hend l a w h hI, fun i hi => wpOp_mono (fun a' w' h' => ih _ a' w' ?_ h') (hstep l a w i hi hI)⟩
    have h1 := (ready_pre hi).2.1
    rw [Array.getD_eq_getD_getElem?] at h1
    by_cases hl : i < l.size
    · rw [Array.getElem?_eq_getElem hl, Option.getD_some] at h1
      have e : l.setIfInBounds i true = l.set i true hl := by simp [Array.setIfInBounds, hl]
      rw [e, Array.count_set, h1]
      have : 0 < l.count false := Array.count_pos_iff.2 (h1 ▸ Array.getElem_mem hl)
      simp; omega
    · rw [Array.getElem?_eq_none (by omega)] at h1; cases h1
theorem wpOp_step {P : Program} {ops : Array Oper} {Q : Exit → Act → World → Prop} {i : Nat} {o : Oper} {a : Act} {w : World} {K' : Act → World → Prop} (ho : ops[i]? = some o)
    (h : ∀ K : Act → World → Prop, (∀ a w, K' a w → K a w) → if Region.wanted o (yielded ops a.tmps) = true then o.wp P a w K Q else K (a.put o.dst undef) w) : wpOp P ops Q i K' a w := by
  have := h K' (fun _ _ h => h)
  unfold wpOp
  rw [ho]
  show if Region.wanted o (yielded ops a.tmps) = true then _ else _
  split
  · rename_i hw; rw [if_pos hw] at this; exact .inl this
  · rename_i hw; rw [if_neg hw] at this; exact this
theorem wpOp_go {P : Program} {ops : Array Oper} {Q : Exit → Act → World → Prop} {i : Nat} {o : Oper} {a : Act} {w : World} {K' : Act → World → Prop} (ho : ops[i]? = some o) (hg : o.guard = none)
    (h : ∀ K : Act → World → Prop, (∀ a w, K' a w → K a w) → o.wp P a w K Q) : wpOp P ops Q i K' a w :=
  wpOp_step ho fun K hK => by rw [if_pos (by simp [Region.wanted, hg])]; exact h K hK

/-- A slot holds a number, a variable for one, a variable that holds one. -/
def SlotNum (w : World) (u : Value) (q : Cx) : Prop := ∃ A1 A2 A3, u = .agg #[.bool (sn (na q)), .slice A1 (ln (ab (na q))) (ln (ab (na q))), .bool (sn (nb q)), .slice A2 (ln (ab (nb q))) (ln (ab (nb q))), .slice A3 (ln (un q)) (ln (un q))] ∧ Num3 w A1 A2 A3 q
def SlotVar (B : Nat) (w : World) (u : Value) : Prop := ∃ g, u = .pointer (some ⟨g, 0, none⟩) ∧ B ≤ g ∧ g < w.heap.size ∧ (∃ c v1 v2 v3 v4, w.cell? ⟨g, 0, none⟩ = some (.bool c) ∧ w.cell? ⟨g, 1, none⟩ = some v1 ∧ w.cell? ⟨g, 2, none⟩ = some v2 ∧ w.cell? ⟨g, 3, none⟩ = some v3 ∧ w.cell? ⟨g, 4, none⟩ = some v4) ∧ (w.frozen? ⟨g, 0, none⟩ = false ∧ w.frozen? ⟨g, 1, none⟩ = false ∧ w.frozen? ⟨g, 2, none⟩ = false ∧ w.frozen? ⟨g, 3, none⟩ = false ∧ w.frozen? ⟨g, 4, none⟩ = false)
def SlotHas (w : World) (u : Value) (q : Cx) : Prop := ∃ g A1 A2 A3, u = .pointer (some ⟨g, 0, none⟩) ∧ g < w.heap.size ∧ Cells5 w g q A1 A2 A3 ∧ Num3 w A1 A2 A3 q
theorem SlotNum.to {w w' : World} {u : Value} {q : Cx} (h : SlotNum w u q) (hb : Below w.heap.size w w') : SlotNum w' u q := by
  obtain ⟨A1, A2, A3, e, h⟩ := h; exact ⟨A1, A2, A3, e, h.to hb⟩
theorem SlotVar.to {B : Nat} {w w' : World} {u : Value} (h : SlotVar B w u) (hb : Below w.heap.size w w') : SlotVar B w' u := by
  obtain ⟨g, e, h1, h2, ⟨c, v1, v2, v3, v4, c0, c1, c2, c3, c4⟩, f0, f1, f2, f3, f4⟩ := h
  exact ⟨g, e, h1, Nat.lt_of_lt_of_le h2 hb.size, ⟨c, v1, v2, v3, v4, keepc hb c0 h2, keepc hb c1 h2, keepc hb c2 h2, keepc hb c3 h2, keepc hb c4 h2⟩, keepf hb f0 h2, keepf hb f1 h2, keepf hb f2 h2, keepf hb f3 h2, keepf hb f4 h2⟩
theorem SlotHas.to {w w' : World} {u : Value} {q : Cx} (h : SlotHas w u q) (hb : Below w.heap.size w w') : SlotHas w' u q := by
  obtain ⟨g, A1, A2, A3, e, h2, ⟨c0, c1, c2, c3, c4⟩, h3⟩ := h
  exact ⟨g, A1, A2, A3, e, Nat.lt_of_lt_of_le h2 hb.size, ⟨keepc hb c0 h2, keepc hb c1 h2, keepc hb c2 h2, keepc hb c3 h2, keepc hb c4 h2⟩, h3.to hb⟩
theorem SlotVar.new {B : Nat} {w : World} {T : TypeId} (hB : B ≤ w.heap.size) : SlotVar B (w.alloc (.cells #[.bool false, .slice none 0 0, .bool false, .slice none 0 0, .slice none 0 0] T)) (.pointer (some ⟨w.heap.size, 0, none⟩)) :=
  ⟨w.heap.size, rfl, hB, by simp, ⟨false, .slice none 0 0, .bool false, .slice none 0 0, .slice none 0 0, by go_simp, by go_simp, by go_simp, by go_simp, by go_simp⟩, by go_simp, by go_simp, by go_simp, by go_simp, by go_simp⟩
theorem SlotVar.ne {B : Nat} {w : World} {u : Value} (h : SlotVar B w u) : u ≠ .pointer (some ⟨w.heap.size, 0, none⟩) := by
  obtain ⟨g, e, h1, h2, _⟩ := h
  intro e2; rw [e] at e2
  injection e2 with e2; injection e2 with e2; injection e2 with e2; omega
/-- A store into a variable's cells: what stays. -/
theorem SlotNum.set5 {w : World} {u : Value} {q r : Cx} {p : Nat} {A1 A2 A3 : Option Addr} {c : Bool} (h : SlotNum w u r) (k : w.cell? ⟨p, 0, none⟩ = some (.bool c)) : SlotNum (set5 w p q A1 A2 A3) u r := by
  obtain ⟨B1, B2, B3, e, h⟩ := h; exact ⟨B1, B2, B3, e, set5_num3 h k⟩
theorem SlotVar.set5 {B : Nat} {w : World} {u : Value} {q : Cx} {p : Nat} {A1 A2 A3 : Option Addr} (h : SlotVar B w u) (hn : u ≠ .pointer (some ⟨p, 0, none⟩)) : SlotVar B (set5 w p q A1 A2 A3) u := by
  obtain ⟨g, e, h1, h2, ⟨c, v1, v2, v3, v4, c0, c1, c2, c3, c4⟩, f0, f1, f2, f3, f4⟩ := h
  have n : g ≠ p := by rintro rfl; exact hn e
  exact ⟨g, e, h1, by rw [set5_size]; exact h2, ⟨c, v1, v2, v3, v4, set5_cell c0 n, set5_cell c1 n, set5_cell c2 n, set5_cell c3 n, set5_cell c4 n⟩, set5_frozen f0, set5_frozen f1, set5_frozen f2, set5_frozen f3, set5_frozen f4⟩
theorem SlotVar.self5 {B : Nat} {w : World} {p : Nat} {q : Cx} {A1 A2 A3 : Option Addr} (h : SlotVar B w (.pointer (some ⟨p, 0, none⟩))) : SlotVar B (Proofs.YtgpmlhpgdalheaaGreat.set5 w p q A1 A2 A3) (.pointer (some ⟨p, 0, none⟩)) := by
  obtain ⟨g, e, h1, h2, ⟨c, v1, v2, v3, v4, c0, c1, c2, c3, c4⟩, f0, f1, f2, f3, f4⟩ := h
  injection e with e; injection e with e; injection e with e
  subst e
  obtain ⟨d0, d1, d2, d3, d4⟩ := set5_self (q := q) (A1 := A1) (A2 := A2) (A3 := A3) c0 c1 c2 c3 c4
  exact ⟨p, rfl, h1, by rw [set5_size]; exact h2, ⟨_, _, _, _, _, d0, d1, d2, d3, d4⟩, set5_frozen f0, set5_frozen f1, set5_frozen f2, set5_frozen f3, set5_frozen f4⟩
theorem SlotHas.set5 {w : World} {u : Value} {q r : Cx} {p : Nat} {A1 A2 A3 : Option Addr} {c : Bool} (h : SlotHas w u r) (hn : u ≠ .pointer (some ⟨p, 0, none⟩)) (k : w.cell? ⟨p, 0, none⟩ = some (.bool c)) : SlotHas (set5 w p q A1 A2 A3) u r := by
  obtain ⟨g, B1, B2, B3, e, h2, ⟨c0, c1, c2, c3, c4⟩, h3⟩ := h
  have n : g ≠ p := by rintro rfl; exact hn e
  exact ⟨g, B1, B2, B3, e, by rw [set5_size]; exact h2, ⟨set5_cell c0 n, set5_cell c1 n, set5_cell c2 n, set5_cell c3 n, set5_cell c4 n⟩, set5_num3 h3 k⟩
theorem SlotHas.mk5 {B : Nat} {w : World} {q : Cx} {p : Nat} {A1 A2 A3 : Option Addr} (h : SlotVar B w (.pointer (some ⟨p, 0, none⟩))) (hq : Num3 w A1 A2 A3 q) : SlotHas (Proofs.YtgpmlhpgdalheaaGreat.set5 w p q A1 A2 A3) (.pointer (some ⟨p, 0, none⟩)) q := by
  obtain ⟨g, e, h1, h2, ⟨c, v1, v2, v3, v4, c0, c1, c2, c3, c4⟩, _⟩ := h
  injection e with e; injection e with e; injection e with e
  subst e
  exact ⟨p, A1, A2, A3, rfl, by rw [set5_size]; exact h2, set5_self c0 c1 c2 c3 c4, set5_num3 hq c0⟩
end Go.Proofs.YtgpmlhpgdalheaaGreat
