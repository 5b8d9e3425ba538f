/- Part 4 of the proof. -/
import Derived.Test.YtdpjknjlhchmcaaNM1
import Derived.ProofKit
import Derived.OpenShut
import Derived.ReadAgain
import Derived.Below
import Derived.Deep.Slices
import Derived.Lib.SmallJoins
import Derived.Deep.SlicePairs
import Derived.Test.YtdpjknjlhchmcaaNM3
import Derived.Deep.LoopGhost
namespace Go.Proofs.Ytdpjknjlhchmcaa
open Go.ChangeShapes Go.WideShapes Go.ChangeAt Go.RowKit Go.Joins Go.Deep Pl
set_option linter.unusedVariables false
section
variable {H : Type} {enc : TypeId × Value → H} {P : Program}
theorem trodAll_carry {w w' : World} {base : Nat} {spare : Nat → Bool} {held : Bool} : ∀ {ts : List TypeId} {vs : List Value} {ds : List (DataW H)} {ps : List MemPlace}, DataW.TrodAll enc P w base spare held ts vs ds ps → (∀ p ∈ ps, w.sameAt w' p) → DataW.TrodAll enc P w' base spare held ts vs ds ps
  | [], [], [], _, h, _ => h
  | _ :: _, _ :: _, _ :: _, _, ⟨p, q, ⟨n, h1⟩, h2, e⟩, hs => ⟨p, q, ⟨n, DataW.trod_carry n _ _ _ h1 (fun x hx => hs x (by rw [e]; exact List.mem_append_left _ hx))⟩, trodAll_carry h2 (fun x hx => hs x (by rw [e]; exact List.mem_append_right _ hx)), e⟩
/-- Arguments that are only read: what is asked behind the call. -/
theorem read_post {f : Func} {s : ChangeSpec} {apart : Bool} {W W' : World} {args : Array Value} {v : Value} {ds : List (DataW H)} {before : List MemPlace}
    (K : Kids P (· < P.types.size)) (hz : ∀ t e, t < P.types.size → P.underlying t = some (.slice e) → 0 < P.cellsOf e) (hpt : ∀ t ∈ f.params.toList, t < P.types.size)
    (hW : DataW.Whole enc P f.params.toList s.vars apart W args.toList ds [] before) (hA : DataW.TrodAll enc P W 0 (fun _ => true) true f.params.toList args.toList ds before)
    (hres : ∀ (b : Nat) (sp : Nat → Bool) (hd : Bool), DataW.TrodAll enc P W' b sp hd f.resultTypes.toList (v.resultList f.resultTypes.size) (s.fn H (ds ++ [])).results [])
    (hargs : (s.fn H (ds ++ [])).args = ds) (hvars : ∀ sp : Nat → Bool, DataW.TrodVars enc P W' sp s.vars (s.fn H (ds ++ [])).vars [])
    (hb : Below W.heap.size W W') : s.post enc P f apart true false false W args v W' := by
  have hlt := hA.lt
  have hsame : ∀ p ∈ before, W.sameAt W' p := by
    intro p hp
    have hl := hlt p hp
    cases p with
    | cell b off => exact hb.cell (p := ⟨b, off, none⟩) hl
    | map b => exact hb.block b hl
  refine ⟨ds, [], before, [], before, [], hW, hres _ _ _, ?_, hvars _, hb.frame _, fun h => by cases h⟩
  rw [hargs]
  exact trodAll_carry (hA.respare K hz hpt (fun p hp => by simpa using hlt p hp)) hsame
/-- What a slice of structs of three int64s holds. -/
def Triples (w : World) (A : Option Addr) (n : Nat) (X Y Z : Nat → Int) : Prop := ∀ i, i < n → ∃ b off, A = some ⟨b, off, none⟩ ∧ b < w.heap.size ∧
  w.cell? ⟨b, off + i * 3, none⟩ = some (.int .i64 (X i)) ∧ w.cell? ⟨b, off + i * 3 + 1, none⟩ = some (.int .i64 (Y i)) ∧ w.cell? ⟨b, off + i * 3 + 2, none⟩ = some (.int .i64 (Z i)) ∧
  (-9223372036854775808 ≤ X i ∧ X i ≤ 9223372036854775807) ∧ (-9223372036854775808 ≤ Y i ∧ Y i ≤ 9223372036854775807) ∧ (-9223372036854775808 ≤ Z i ∧ Z i ≤ 9223372036854775807)
theorem Triples.to {w w' : World} {A : Option Addr} {n : Nat} {X Y Z : Nat → Int} (h : Triples w A n X Y Z) (hb : Below w.heap.size w w') : Triples w' A n X Y Z := by
  intro i hi
  obtain ⟨b, off, e, hl, c0, c1, c2, r⟩ := h i hi
  exact ⟨b, off, e, Nat.lt_of_lt_of_le hl hb.size, (hb.cell (p := ⟨b, _, none⟩) hl).trans c0, (hb.cell (p := ⟨b, _, none⟩) hl).trans c1, (hb.cell (p := ⟨b, _, none⟩) hl).trans c2, r⟩
theorem add_none {a : Addr} (k : Nat) (h : a.spot = none) : a.add k = ⟨a.block, a.off + k, none⟩ := by
  unfold Addr.add
  split
  · rename_i h0; subst h0; cases a; simp_all
  · rfl
end
end Go.Proofs.Ytdpjknjlhchmcaa

namespace Go.Proofs.Ytdpjknjlhchmcaa
open Go.RowKit Pl
set_option linter.unusedVariables false
set_option linter.unusedSimpArgs false
/-- A slice of slices: row i is the slice (R i, N i, K i). -/
def Grid (w : World) (A : Option Addr) (n : Nat) (R : Nat → Option Addr) (N K : Nat → Nat) : Prop := ∀ i, i < n → ∃ b off, A = some ⟨b, off, none⟩ ∧ b < w.heap.size ∧ w.cell? ⟨b, off + i, none⟩ = some (.slice (R i) (N i) (K i))
theorem Grid.to {w w' : World} {A : Option Addr} {n : Nat} {R : Nat → Option Addr} {N K : Nat → Nat} (h : Grid w A n R N K) (hb : Below w.heap.size w w') : Grid w' A n R N K := by
  intro i hi
  obtain ⟨b, off, e, hl, c⟩ := h i hi
  exact ⟨b, off, e, Nat.lt_of_lt_of_le hl hb.size, (hb.cell (p := ⟨b, _, none⟩) hl).trans c⟩
end Go.Proofs.Ytdpjknjlhchmcaa

namespace Go.Proofs.Ytdpjknjlhchmcaa
open Go.RowKit Pl
set_option linter.unusedVariables false
set_option linter.unusedSimpArgs false
/-- A number of the program lies at the offset o of the block g. -/
def PE (w : World) (g o : Nat) (q : Cx) : Prop := ∃ A1 A2 A3, (w.cell? ⟨g, o, none⟩ = some (.bool (sn (na q))) ∧ w.cell? ⟨g, o + 1, none⟩ = some (.slice A1 (ln (ab (na q))) (ln (ab (na q)))) ∧ w.cell? ⟨g, o + 2, none⟩ = some (.bool (sn (nb q))) ∧ w.cell? ⟨g, o + 3, none⟩ = some (.slice A2 (ln (ab (nb q))) (ln (ab (nb q)))) ∧ w.cell? ⟨g, o + 4, none⟩ = some (.slice A3 (ln (un q)) (ln (un q)))) ∧ Num3 w A1 A2 A3 q
theorem PE.lt {w : World} {g o : Nat} {q : Cx} (h : PE w g o q) : g < w.heap.size := by
  obtain ⟨_, _, _, ⟨c0, _⟩, _⟩ := h
  exact World.block_lt_of_cell? w ⟨g, o, none⟩ c0
theorem PE.to {w w' : World} {g o : Nat} {q : Cx} (h : PE w g o q) (hb : Below w.heap.size w w') : PE w' g o q := by
  have l := h.lt
  obtain ⟨A1, A2, A3, ⟨c0, c1, c2, c3, c4⟩, n⟩ := h
  exact ⟨A1, A2, A3, ⟨keepc hb c0 l, keepc hb c1 l, keepc hb c2 l, keepc hb c3 l, keepc hb c4 l⟩, n.to hb⟩
/-- A number is stored at the offset o of the block p. -/
def set5o (w : World) (p o : Nat) (q : Cx) (A1 A2 A3 : Option Addr) : World :=
  ((((w.setCell ⟨p, o, none⟩ (.bool (sn (na q)))).setCell ⟨p, o + 1, none⟩ (.slice A1 (ln (ab (na q))) (ln (ab (na q))))).setCell ⟨p, o + 2, none⟩ (.bool (sn (nb q)))).setCell ⟨p, o + 3, none⟩ (.slice A2 (ln (ab (nb q))) (ln (ab (nb q))))).setCell ⟨p, o + 4, none⟩ (.slice A3 (ln (un q)) (ln (un q)))
theorem set5o_size (w : World) (p o : Nat) (q : Cx) (A1 A2 A3 : Option Addr) : (set5o w p o q A1 A2 A3).heap.size = w.heap.size := by simp [set5o, World.setCell]
theorem set5o_cell {w : World} {p o b i : Nat} {q : Cx} {A1 A2 A3 : Option Addr} {v : Value} (h : w.cell? ⟨b, i, none⟩ = some v) (h1 : b ≠ p ∨ i < o ∨ o + 5 ≤ i) : (set5o w p o q A1 A2 A3).cell? ⟨b, i, none⟩ = some v := keepo (keepo (keepo (keepo (keepo h (by omega)) (by omega)) (by omega)) (by omega)) (by omega)
theorem set5o_below {w W : World} {B p o : Nat} {q : Cx} {A1 A2 A3 : Option Addr} (h : Below B w W) (hp : B ≤ p) : Below B w (set5o W p o q A1 A2 A3) :=
  ((((h.setCell (by exact hp) _).setCell (by exact hp) _).setCell (by exact hp) _).setCell (by exact hp) _).setCell (by exact hp) _
/-- A block whose first cell is no integer holds no number's words. -/
theorem nat_set {w : World} {p o n : Nat} {A : Option Addr} {c : Bool} {v : Value} (h : Nat32 w A n) (u : w.cell? ⟨p, 0, none⟩ = some (.bool c)) : Nat32 (w.setCell ⟨p, o, none⟩ v) A n :=
  h.setBox u (by intro k m e; cases e)
theorem bool_set {w : World} {p o : Nat} {c d : Bool} {v : Value} (u : w.cell? ⟨p, 0, none⟩ = some (.bool c)) (h : o ≠ 0 ∨ v = .bool d) : ∃ e, (w.setCell ⟨p, o, none⟩ v).cell? ⟨p, 0, none⟩ = some (.bool e) := by
  by_cases ho : o = 0
  · subst ho
    rcases h with h | h
    · exact absurd rfl h
    · subst h; exact ⟨d, cell_self u⟩
  · exact ⟨c, keepo u (.inr (by omega))⟩
theorem set5o_nat {w : World} {p o n : Nat} {q : Cx} {A1 A2 A3 A : Option Addr} {c : Bool} (h : Nat32 w A n) (u : w.cell? ⟨p, 0, none⟩ = some (.bool c)) : Nat32 (set5o w p o q A1 A2 A3) A n := by
  obtain ⟨e1, a1⟩ := bool_set (o := o) (v := .bool (sn (na q))) u (.inr rfl)
  obtain ⟨e2, a2⟩ := bool_set (d := false) (o := o + 1) (v := .slice A1 (ln (ab (na q))) (ln (ab (na q)))) a1 (.inl (by omega))
  obtain ⟨e3, a3⟩ := bool_set (d := false) (o := o + 2) (v := .bool (sn (Pl.nb q))) a2 (.inl (by omega))
  obtain ⟨e4, a4⟩ := bool_set (d := false) (o := o + 3) (v := .slice A2 (ln (ab (Pl.nb q))) (ln (ab (Pl.nb q)))) a3 (.inl (by omega))
  exact nat_set (nat_set (nat_set (nat_set (nat_set h u) a1) a2) a3) a4
theorem set5o_bool {w : World} {p o : Nat} {q : Cx} {A1 A2 A3 : Option Addr} {c : Bool} (u : w.cell? ⟨p, 0, none⟩ = some (.bool c)) : ∃ e, (set5o w p o q A1 A2 A3).cell? ⟨p, 0, none⟩ = some (.bool e) := by
  obtain ⟨e1, a1⟩ := bool_set (o := o) (v := .bool (sn (na q))) u (.inr rfl)
  obtain ⟨e2, a2⟩ := bool_set (d := false) (o := o + 1) (v := .slice A1 (ln (ab (na q))) (ln (ab (na q)))) a1 (.inl (by omega))
  obtain ⟨e3, a3⟩ := bool_set (d := false) (o := o + 2) (v := .bool (sn (Pl.nb q))) a2 (.inl (by omega))
  obtain ⟨e4, a4⟩ := bool_set (d := false) (o := o + 3) (v := .slice A2 (ln (ab (Pl.nb q))) (ln (ab (Pl.nb q)))) a3 (.inl (by omega))
  exact bool_set (d := false) (o := o + 4) (v := .slice A3 (ln (un q)) (ln (un q))) a4 (.inl (by omega))
theorem set5o_num3 {w : World} {p o : Nat} {q r : Cx} {A1 A2 A3 B1 B2 B3 : Option Addr} {c : Bool} (h : Num3 w B1 B2 B3 r) (u : w.cell? ⟨p, 0, none⟩ = some (.bool c)) : Num3 (set5o w p o q A1 A2 A3) B1 B2 B3 r := ⟨set5o_nat h.1 u, set5o_nat h.2.1 u, set5o_nat h.2.2 u⟩
theorem PE.set5o {w : World} {g p o i : Nat} {q r : Cx} {A1 A2 A3 : Option Addr} {c : Bool} (h : PE w g i r) (hn : g ≠ p ∨ i + 5 ≤ o ∨ o + 5 ≤ i) (k : w.cell? ⟨p, 0, none⟩ = some (.bool c)) : PE (set5o w p o q A1 A2 A3) g i r := by
  obtain ⟨B1, B2, B3, ⟨c0, c1, c2, c3, c4⟩, n⟩ := h
  exact ⟨B1, B2, B3, ⟨set5o_cell c0 (by omega), set5o_cell c1 (by omega), set5o_cell c2 (by omega), set5o_cell c3 (by omega), set5o_cell c4 (by omega)⟩, set5o_num3 n k⟩
theorem pe_set {w : World} {p o m : Nat} {T : TypeId} {F : Nat → Value} {q : Cx} {A1 A2 A3 : Option Addr} {c : Bool} (hr : w.rowIs p T m F) (ho : o + 5 ≤ m) (k : w.cell? ⟨p, 0, none⟩ = some (.bool c)) (n : Num3 w A1 A2 A3 q) : PE (set5o w p o q A1 A2 A3) p o q := by
  refine ⟨A1, A2, A3, ?_, set5o_num3 n k⟩
  have u0 := hr.cell (i := o) (by omega)
  have u1 := hr.cell (i := o + 1) (by omega)
  have u2 := hr.cell (i := o + 2) (by omega)
  have u3 := hr.cell (i := o + 3) (by omega)
  have u4 := hr.cell (i := o + 4) (by omega)
  unfold Proofs.Ytdpjknjlhchmcaa.set5o
  have o0 := cell_self (u := .bool (sn (na q))) u0
  refine ⟨?_, ?_, ?_, ?_, ?_⟩
  · exact keepo (keepo (keepo (keepo o0 (by omega)) (by omega)) (by omega)) (by omega)
  · exact keepo (keepo (keepo (cell_self (keepo u1 (by omega))) (by omega)) (by omega)) (by omega)
  · exact keepo (keepo (cell_self (keepo (keepo u2 (by omega)) (by omega))) (by omega)) (by omega)
  · exact keepo (cell_self (keepo (keepo (keepo u3 (by omega)) (by omega)) (by omega))) (by omega)
  · exact cell_self (keepo (keepo (keepo (keepo u4 (by omega)) (by omega)) (by omega)) (by omega))
/-- The block holds a row of m cells, whatever they are; the first one is a bool. -/
def RowB (w : World) (g : Nat) (T : TypeId) (m : Nat) : Prop := (∃ F, w.rowIs g T m F) ∧ ∃ c, w.cell? ⟨g, 0, none⟩ = some (.bool c)
theorem RowB.lt {w : World} {g m : Nat} {T : TypeId} (h : RowB w g T m) : g < w.heap.size := by
  obtain ⟨⟨F, h⟩, _⟩ := h; exact h.lt
theorem RowB.to {w w' : World} {g m : Nat} {T : TypeId} (h : RowB w g T m) (hb : Below w.heap.size w w') : RowB w' g T m := by
  have l := h.lt
  obtain ⟨⟨F, h⟩, c, k⟩ := h
  exact ⟨⟨F, h.of_block (hb.block g l)⟩, c, keepc hb k l⟩
theorem RowB.set5o {w : World} {g p o m : Nat} {T : TypeId} {q : Cx} {A1 A2 A3 : Option Addr} (h : RowB w g T m) : RowB (set5o w p o q A1 A2 A3) g T m := by
  obtain ⟨⟨F, h⟩, c, k⟩ := h
  by_cases e : g = p
  · subst e
    refine ⟨⟨_, ((((h.set _ _).set _ _).set _ _).set _ _).set _ _⟩, set5o_bool k⟩
  · refine ⟨⟨F, ((((h.setOther (a := ⟨p, o, none⟩) e _).setOther (a := ⟨p, o + 1, none⟩) e _).setOther (a := ⟨p, o + 2, none⟩) e _).setOther (a := ⟨p, o + 3, none⟩) e _).setOther (a := ⟨p, o + 4, none⟩) e _⟩, c, set5o_cell k (.inl e)⟩
end Go.Proofs.Ytdpjknjlhchmcaa

namespace Go.Proofs.Ytdpjknjlhchmcaa
open Go.RowKit Pl
set_option linter.unusedVariables false
set_option linter.unusedSimpArgs false
/-- The five cells of a new number. -/
def Z5 : Array Value := #[.bool false, .slice none 0 0, .bool false, .slice none 0 0, .slice none 0 0]
/-- 'make' of n numbers. -/
def mkN (w : World) (n : Nat) (T : TypeId) : World := w.alloc (.cells (madeCells Z5 (n * 5)) T)
theorem mkN_size (w : World) (n : Nat) (T : TypeId) : (mkN w n T).heap.size = w.heap.size + 1 := by simp [mkN]
theorem mkN_below (w : World) (n : Nat) (T : TypeId) : Below w.heap.size w (mkN w n T) := (Below.refl _ _).alloc (Nat.le_refl _) _
theorem mkN_row (w : World) (n : Nat) (T : TypeId) (hn : 0 < n) : RowB (mkN w n T) w.heap.size T (n * 5) := by
  have h := World.rowIs_alloc w (madeCells Z5 (n * 5)) T (fun j => Z5[j % 5]!) (fun i hi => by rw [size_madeCells] at hi; simp [madeCells, hi]; rfl)
  rw [size_madeCells] at h
  refine ⟨⟨_, h⟩, false, ?_⟩
  exact h.cell (i := 0) (by omega)
theorem mk_nums (n : Nat) (hn : n ≤ 100000) (w : World) : (Instr.makeSlice 42 (.int .i64 (n : Int)) (.int .i64 (n : Int))).run Try.prog w = .ok (.slice (some ⟨w.heap.size, 0, none⟩) n n) (mkN w n 34) := by
  obtain ⟨i, hi, hz, hs, hb⟩ := info_parts Try.info_num
  have := run_make (P := Try.prog) w 42 _ i _ Try.und_nums hi hz .i64 .i64 n n (by omega) (by omega) (by rw [hb]; omega) (by omega)
  simpa [hs, mkN, Z5, Value.cells] using this
end Go.Proofs.Ytdpjknjlhchmcaa

namespace Go.Proofs.Ytdpjknjlhchmcaa
open Go.RowKit Pl
set_option linter.unusedVariables false
set_option linter.unusedSimpArgs false
/-- An operation whose guard is met. -/
theorem wpOp_gg {P : Program} {ops : Array Oper} {Q : Exit → Act → World → Prop} {i : Nat} {o : Oper} {a : Act} {w : World} {K' : Act → World → Prop} (ho : ops[i]? = some o) (hg : Region.wanted o (yielded ops a.tmps) = true)
    (h : ∀ K : Act → World → Prop, (∀ a w, K' a w → K a w) → o.wp P a w K Q) : wpOp P ops Q i K' a w :=
  wpOp_step ho fun K hK => by rw [if_pos hg]; exact h K hK
/-- An operation whose guard is not met. -/
theorem wpOp_sk {P : Program} {ops : Array Oper} {Q : Exit → Act → World → Prop} {i : Nat} {o : Oper} {a : Act} {w : World} {K' : Act → World → Prop} (ho : ops[i]? = some o) (hg : Region.wanted o (yielded ops a.tmps) = false)
    (h : ∀ K : Act → World → Prop, (∀ a w, K' a w → K a w) → K (a.put o.dst undef) w) : wpOp P ops Q i K' a w :=
  wpOp_step ho fun K hK => by rw [if_neg (by rw [hg]; decide)]; exact h K hK
/-- 'append', by what it is known to do. -/
theorem wp_append_run {P : Program} {o : Oper} {a : Act} {w w' : World} {K : Act → World → Prop} {Q : Exit → Act → World → Prop} {s x : Operand} {t : TypeId} {v1 v2 v' : Value}
    (ho : o.op = .call { callee := .builtin .append, args := #[s, x], argTypes := #[t, t] }) (hs : a.eval s = v1) (hx : a.eval x = v2) (hr : (Builtin.append_ #[t, t] o.type #[v1, v2]).run P w = .ok v' w') (h : K (a.put o.dst v') w') : o.wp P a w K Q := by
  unfold Oper.wp execOp
  simp only [ho, resolve, invoke, builtin, Sem.run_bind, Sem.run_pure, Result.andThen_ok, List.map_toArray, List.map_cons, List.map_nil, hs, hx, hr]
  exact h
-- what has come up, and what holds since
def On (l : Array Bool) (i : Nat) (p : Prop) : Prop := on l i = true → p
theorem On.get {l : Array Bool} {i : Nat} {p : Prop} (h : On l i p) (k : on l i = true) : p := h k
theorem On.keep {l : Array Bool} {i j : Nat} {p : Prop} (h : On l i p) (hn : i ≠ j) : On (l.setIfInBounds j true) i p := fun k => h (on_ne k hn)
theorem On.map {l : Array Bool} {i : Nat} {p q : Prop} (h : On l i p) (f : p → q) : On l i q := fun k => f (h k)
theorem On.new {l : Array Bool} {i : Nat} {p : Prop} (h : p) : On l i p := fun _ => h
/-- The slots' values, as a function; those that have come up hold what they should. -/
def upd (v : Nat → Value) (i : Nat) (x : Value) : Nat → Value := fun j => cond (Nat.beq j i) x (v j)
def OnAll (l : Array Bool) (v val : Nat → Value) : Prop := ∀ j, on l j = true → v j = val j
theorem OnAll.get {l : Array Bool} {v val : Nat → Value} (h : OnAll l v val) (j : Nat) (k : on l j = true) : v j = val j := h j k
theorem OnAll.same {l : Array Bool} {v val : Nat → Value} {i : Nat} {x : Value} (h : OnAll l v val) (hx : x = val i) : OnAll l (upd v i x) val := by
  intro j k
  unfold upd
  by_cases e : Nat.beq j i = true
  · rw [e]; rw [Nat.eq_of_beq_eq_true e]; exact hx
  · rw [Bool.eq_false_iff.2 e]; exact h j k
theorem OnAll.fix {l : Array Bool} {v val : Nat → Value} {i : Nat} {x : Value} (h : OnAll l v val) (_ : v i = x) (hx : x = val i) : OnAll l (upd v i x) val := h.same hx
theorem OnAll.new {l : Array Bool} {v val : Nat → Value} {i : Nat} {x : Value} (h : OnAll l v val) (hx : x = val i) : OnAll (l.setIfInBounds i true) (upd v i x) val := by
  intro j k
  unfold upd
  by_cases e : Nat.beq j i = true
  · rw [e]; rw [Nat.eq_of_beq_eq_true e]; exact hx
  · rw [Bool.eq_false_iff.2 e]; exact h j (on_ne k (fun e2 => e (by rw [e2]; exact Nat.beq_refl _)))
theorem OnAll.start {n : Nat} {v val : Nat → Value} : OnAll (Array.replicate n false) v val := by
  intro j k
  unfold on at k
  rw [Array.getD_eq_getD_getElem?] at k
  by_cases h : j < n
  · simp [h] at k
  · simp [Array.getElem?_eq_none (show (Array.replicate n false).size ≤ j by simp; omega)] at k
def Off (l : Array Bool) (i : Nat) (p : Prop) : Prop := ¬ on l i = true → p
theorem Off.get {l : Array Bool} {i : Nat} {p : Prop} (h : Off l i p) (k : ¬ on l i = true) : p := h k
theorem Off.keep {l : Array Bool} {i j : Nat} {p : Prop} (h : Off l i p) : Off (l.setIfInBounds j true) i p := fun k => h (fun k2 => k (on_mono k2))
theorem Off.done {l : Array Bool} {i : Nat} {p : Prop} (h : i < l.size) : Off (l.setIfInBounds i true) i p := fun k => absurd (by
  unfold on
  simp [Array.getD_eq_getD_getElem?, Array.getElem?_setIfInBounds, h]) k
theorem Off.new {l : Array Bool} {i : Nat} {p : Prop} (h : p) : Off l i p := fun _ => h
/-- As OnAll, for the listed operations alone. -/
def OnFix (l : Array Bool) (v val : Nat → Value) (fx : List Nat) : Prop := ∀ j, j ∈ fx → on l j = true → v j = val j
theorem OnFix.get {l : Array Bool} {v val : Nat → Value} {fx : List Nat} (h : OnFix l v val fx) (j : Nat) (m : j ∈ fx) (k : on l j = true) : v j = val j := h j m k
theorem OnFix.fix {l : Array Bool} {v val : Nat → Value} {fx : List Nat} {i : Nat} {x : Value} (h : OnFix l v val fx) (hx : x = val i) : OnFix l (upd v i x) val fx := by
  intro j m k
  unfold upd
  by_cases e : Nat.beq j i = true
  · rw [e]; rw [Nat.eq_of_beq_eq_true e]; exact hx
  · rw [Bool.eq_false_iff.2 e]; exact h j m k
theorem OnFix.new {l : Array Bool} {v val : Nat → Value} {fx : List Nat} {i : Nat} {x : Value} (h : OnFix l v val fx) (hx : x = val i) : OnFix (l.setIfInBounds i true) (upd v i x) val fx := by
  intro j m k
  unfold upd
  by_cases e : Nat.beq j i = true
  · rw [e]; rw [Nat.eq_of_beq_eq_true e]; exact hx
  · rw [Bool.eq_false_iff.2 e]; exact h j m (on_ne k (fun e2 => e (by rw [e2]; exact Nat.beq_refl _)))
theorem OnFix.other {l : Array Bool} {v val : Nat → Value} {fx : List Nat} {i : Nat} (h : OnFix l v val fx) (hi : i ∉ fx) : OnFix (l.setIfInBounds i true) v val fx :=
  fun j m k => h j m (on_ne k (fun e => hi (e ▸ m)))
theorem OnFix.start {n : Nat} {v val : Nat → Value} {fx : List Nat} : OnFix (Array.replicate n false) v val fx := fun j _ k => OnAll.start (n := n) (v := v) (val := val) j k
theorem On.mono {l : Array Bool} {i j b : Nat} (h : On l j (on l b = true)) (hn : j ≠ i) : On (l.setIfInBounds i true) j (on (l.setIfInBounds i true) b = true) := (h.keep hn).map on_mono
theorem Off.map {l : Array Bool} {i : Nat} {p q : Prop} (h : Off l i p) (f : p → q) : Off l i q := fun k => f (h k)
/-- What has come up after what. -/
def Edg (l : Array Bool) (E : List (Nat × Nat)) : Prop := ∀ p ∈ E, on l p.1 = true → on l p.2 = true
theorem Edg.mono {l : Array Bool} {E : List (Nat × Nat)} {i : Nat} (h : Edg l E) (hi : ∀ p ∈ E, p.1 ≠ i) : Edg (l.setIfInBounds i true) E := fun p hp k => on_mono (h p hp (on_ne k (hi p hp)))
theorem Edg.step {l : Array Bool} {E : List (Nat × Nat)} {i : Nat} (h : Edg l E) (hs : ∀ p ∈ E, p.1 = i → on l p.2 = true) : Edg (l.setIfInBounds i true) E := fun p hp k => by
  by_cases e : p.1 = i
  · exact on_mono (hs p hp e)
  · exact on_mono (h p hp (on_ne k e))
theorem Edg.get {l : Array Bool} {E : List (Nat × Nat)} (h : Edg l E) (a b : Nat) (m : (a, b) ∈ E) (k : on l a = true) : on l b = true := h (a, b) m k
theorem Edg.start {n : Nat} {E : List (Nat × Nat)} : Edg (Array.replicate n false) E := fun p _ k => absurd k (by
  intro k
  unfold on at k
  rw [Array.getD_eq_getD_getElem?] at k
  by_cases h : p.1 < n
  · simp [h] at k
  · simp [Array.getElem?_eq_none (show (Array.replicate n false).size ≤ p.1 by simp; omega)] at k)
theorem OnFix.fixE {l : Array Bool} {v v0 val : Nat → Value} {fx : List Nat} {i : Nat} {x : Value} (h : OnFix l v val fx) (_ : v0 i = x) (hx : x = val i) : OnFix l (upd v i x) val fx := h.fix hx
end Go.Proofs.Ytdpjknjlhchmcaa

namespace Go.Proofs.Ytdpjknjlhchmcaa
open Go.RowKit Pl
set_option linter.unusedVariables false
set_option linter.unusedSimpArgs false
theorem of_five (v1 v2 v3 v4 v5 : Value) (y : Cx) (B1 B2 B3 : Option Addr) (w : World) (hy : Num3 w B1 B2 B3 y) (k1 : v1.oneCell' = true) (k2 : v2.oneCell' = true) (k3 : v3.oneCell' = true) (k4 : v4.oneCell' = true) (k5 : v5.oneCell' = true) :
    Calls Try.prog 112 #[.agg #[v1, v2, v3, v4, v5], .agg #[.bool (sn (na y)), .slice B1 (ln (ab (na y))) (ln (ab (na y))), .bool (sn (nb y)), .slice B2 (ln (ab (nb y))) (ln (ab (nb y))), .slice B3 (ln (un y)) (ln (un y))]] w (RetNum w y) := by
  go_enter Try.func112, Try.ntmps112
  go_wp2_with fail
  exact bodyPost_ret (v := .agg #[.bool (sn (na y)), .slice B1 (ln (ab (na y))) (ln (ab (na y))), .bool (sn (nb y)), .slice B2 (ln (ab (nb y))) (ln (ab (nb y))), .slice B3 (ln (un y)) (ln (un y))]) (by simp [results, Try.results112, go_sem]) rfl ⟨B1, B2, B3, rfl, ⟨((hy.1.alloc _).alloc _).alloc _, ((hy.2.1.alloc _).alloc _).alloc _, ((hy.2.2.alloc _).alloc _).alloc _⟩, (((Below.refl _ _).alloc (Nat.le_refl _) _).alloc (by simp) _).alloc (by simp; omega) _⟩
end Go.Proofs.Ytdpjknjlhchmcaa

namespace Go.Proofs.Ytdpjknjlhchmcaa
open Go.RowKit Pl
set_option linter.unusedVariables false
set_option linter.unusedSimpArgs false
theorem sz_add2 {K L : Nat} {x y : Cx} (hx : sz K x) (hy : sz L y) : sz (K + L + 1) (x.add y) := by
  rw [← add_fr]
  refine fr_sz (by have := nd_pos x; have := nd_pos y; exact Nat.mul_ne_zero (nd_ne0 x) (nd_ne0 y)) ?_ ?_ ?_
  · have := ab_add_ln (K := K + L) (ab_mul_ln hx.1 (ab_nat_ln hy.2.2)) (Nat.le_trans (ab_mul_ln hy.1 (ab_nat_ln hx.2.2)) (by omega)); omega
  · have := ab_add_ln (K := K + L) (ab_mul_ln hx.2.1 (ab_nat_ln hy.2.2)) (Nat.le_trans (ab_mul_ln hy.2.1 (ab_nat_ln hx.2.2)) (by omega)); omega
  · have := nat_mul_ln hx.2.2 hy.2.2; omega
theorem sz_mul2 {K L : Nat} {x y : Cx} (hx : sz K x) (hy : sz L y) : sz (K + L + 1) (x.mul y) := by
  rw [← mul_fr, Int.sub_eq_add_neg]
  refine fr_sz (Nat.mul_ne_zero (nd_ne0 x) (nd_ne0 y)) ?_ ?_ ?_
  · have := ab_add_ln (ab_mul_ln hx.1 hy.1) (b := -(nb x * nb y)) (by rw [ab_neg]; exact ab_mul_ln hx.2.1 hy.2.1); omega
  · have := ab_add_ln (ab_mul_ln hx.1 hy.2.1) (ab_mul_ln hx.2.1 hy.1); omega
  · have := nat_mul_ln hx.2.2 hy.2.2; omega
theorem sz_sub2 {K L : Nat} {x y : Cx} (hx : sz K x) (hy : sz L y) : sz (K + L + 1) (x.sub y) := sz_add2 hx (sz_neg hy)
theorem sz_div2 {K L : Nat} {x y : Cx} (hL : 1 ≤ L) (hx : sz K x) (hy : sz L y) (h0 : y ≠ Cx.zero) : sz (K + 3 * L + 2) (x.div y) := by
  rw [← div_fr x h0]
  have hz := sz_mul2 hx (fr_sz (a := na y) (b := -nb y) (d := 1) (by omega) hy.1 (by rw [ab_neg]; exact hy.2.1) (by rw [ln_one]; exact hL))
  refine fr_sz (div_ne x h0) ?_ ?_ ?_
  · have := ab_mul_ln hz.1 (ab_nat_ln hy.2.2); omega
  · have := ab_mul_ln hz.2.1 (ab_nat_ln hy.2.2); omega
  · have h1 := ab_add_ln (ab_mul_ln hy.1 hy.1) (ab_mul_ln hy.2.1 hy.2.1); have := nat_mul_ln hz.2.2 h1; omega
/-- The first of d rows from p on that has something in column c; or p + d. -/
def piv (f : Nat → Nat → Cx) (c : Nat) : Nat → Nat → Nat
  | 0, p => p
  | d + 1, p => if f p c = Cx.zero then piv f c d (p + 1) else p
theorem piv_spec (f : Nat → Nat → Cx) (c : Nat) : ∀ d a, a ≤ piv f c d a ∧ piv f c d a ≤ a + d ∧ (∀ q, a ≤ q → q < piv f c d a → f q c = Cx.zero) ∧ (piv f c d a < a + d → f (piv f c d a) c ≠ Cx.zero) := by
  intro d
  induction d with
  | zero => intro a; exact ⟨Nat.le_refl _, Nat.le_refl _, fun q h1 h2 => absurd h1 (Nat.not_le_of_lt h2), fun h => absurd h (Nat.lt_irrefl _)⟩
  | succ d ih =>
    intro a
    unfold piv
    by_cases h : f a c = Cx.zero
    · rw [if_pos h]
      obtain ⟨h1, h2, h3, h4⟩ := ih (a + 1)
      refine ⟨by omega, by omega, fun q k1 k2 => ?_, fun k => h4 (by omega)⟩
      by_cases e : q = a
      · rw [e]; exact h
      · exact h3 q (by omega) k2
    · rw [if_neg h]
      exact ⟨Nat.le_refl _, by omega, fun q h1 h2 => absurd h1 (Nat.not_le_of_lt h2), fun _ => h⟩
/-- Sizes behind c rounds. -/
def bd (K : Nat) : Nat → Nat
  | 0 => K
  | c + 1 => 6 * bd K c + 4
theorem bd_le (K : Nat) : ∀ c, K ≤ bd K c := by
  intro c
  induction c with
  | zero => exact Nat.le_refl _
  | succ c ih => show K ≤ 6 * bd K c + 4; omega
theorem bd_mono (K : Nat) : ∀ c d, c ≤ d → bd K c ≤ bd K d := by
  intro c d h
  induction d with
  | zero => rw [Nat.le_zero.1 h]; exact Nat.le_refl _
  | succ d ih =>
    by_cases e : c = d + 1
    · rw [e]; exact Nat.le_refl _
    · have := ih (by omega); show bd K c ≤ 6 * bd K d + 4; omega
end Go.Proofs.Ytdpjknjlhchmcaa

namespace Go.Proofs.Ytdpjknjlhchmcaa
open Go.RowKit Pl
set_option linter.unusedVariables false
set_option linter.unusedSimpArgs false
/-- The sum of the first j products of row i and column k. -/
def dotC (f g : Nat → Nat → Cx) (i k : Nat) : Nat → Cx
  | 0 => Cx.zero
  | j + 1 => (dotC f g i k j).add ((f i j).mul (g j k))
theorem zero_add_c (x : Cx) : Cx.zero.add x = x := by
  cases x; simp [Cx.zero, Cx.add, Rat.zero_add]
end Go.Proofs.Ytdpjknjlhchmcaa

namespace Go.Proofs.Ytdpjknjlhchmcaa
open Go.RowKit Pl
set_option linter.unusedVariables false
set_option linter.unusedSimpArgs false
/-- A minor of two rows. -/
def m2 (A B : Nat → Cx) (i j : Nat) : Cx := ((A i).mul (B j)).sub ((A j).mul (B i))
/-- The determinant of four rows. -/
def D4 (A B C D : Nat → Cx) : Cx :=
  ((((((m2 A B 0 1).mul (m2 C D 2 3)).sub ((m2 A B 0 2).mul (m2 C D 1 3))).add ((m2 A B 0 3).mul (m2 C D 1 2))).add ((m2 A B 1 2).mul (m2 C D 0 3))).sub ((m2 A B 1 3).mul (m2 C D 0 2))).add ((m2 A B 2 3).mul (m2 C D 0 1))
theorem sub_zero_c (x t : Cx) : x.sub (t.mul Cx.zero) = x := by
  refine Cx.ext' ?_ ?_ <;> simp only [Cx.add, Cx.sub, Cx.neg, Cx.mul, Cx.zero] <;> grind
/-- Multiples of row c are taken from all rows (t c = 0). -/
def rows (c : Nat) (t : Nat → Cx) (f : Nat → Nat → Cx) : Nat → Nat → Cx := fun i k => (f i k).sub ((t i).mul (f c k))
theorem zero_mul_c (x : Cx) : Cx.zero.mul x = Cx.zero := by
  refine Cx.ext' ?_ ?_ <;> simp only [Cx.mul, Cx.zero] <;> grind
end Go.Proofs.Ytdpjknjlhchmcaa

namespace Go.Proofs.Ytdpjknjlhchmcaa
open Go.RowKit Pl
set_option linter.unusedVariables false
set_option linter.unusedSimpArgs false
theorem div_mul_c (x : Cx) {y : Cx} (h : y ≠ Cx.zero) : (x.div y).mul y = x := of_decide_eq_true (la8 x h)
section
variable {n : Nat} {Q : (Nat → Nat → Cx) → Prop}
end
theorem mul_one_c (x : Cx) : x.mul (Cx.ofInt 1) = x := by
  refine Cx.ext' ?_ ?_ <;> simp only [Cx.mul, Cx.ofInt] <;> grind
theorem mul_zero_c (x : Cx) : x.mul Cx.zero = Cx.zero := by
  refine Cx.ext' ?_ ?_ <;> simp only [Cx.mul, Cx.zero] <;> grind
theorem one_mul_c (x : Cx) : (Cx.ofInt 1).mul x = x := by
  refine Cx.ext' ?_ ?_ <;> simp only [Cx.mul, Cx.ofInt] <;> grind
theorem add_zero_c (x : Cx) : x.add Cx.zero = x := by
  refine Cx.ext' ?_ ?_ <;> simp only [Cx.add, Cx.zero] <;> grind
theorem dot_row {f f' g : Nat → Nat → Cx} {i i' : Nat} (h : f i = f' i') (k : Nat) : ∀ j, dotC f g i k j = dotC f' g i' k j := by
  intro j
  induction j with
  | zero => rfl
  | succ j ih => simp only [dotC, ih, h]
theorem dot_zero {f g : Nat → Nat → Cx} {i k : Nat} : ∀ j, (∀ l, l < j → f i l = Cx.zero) → dotC f g i k j = Cx.zero := by
  intro j
  induction j with
  | zero => intro _; rfl
  | succ j ih => intro h; simp only [dotC]; rw [ih fun l hl => h l (by omega), h j (by omega), zero_mul_c, add_zero_c]
theorem dot_one {f g : Nat → Nat → Cx} {i k n : Nat} (h : ∀ l, l < n → i ≠ l → f i l = Cx.zero) : ∀ j, j ≤ n → dotC f g i k j = if i < j then (f i i).mul (g i k) else Cx.zero := by
  intro j
  induction j with
  | zero => intro _; rw [if_neg (by omega)]; rfl
  | succ j ih =>
    intro hj
    simp only [dotC]
    rw [ih (by omega)]
    by_cases e : i = j
    · subst e; rw [if_neg (by omega), if_pos (by omega), zero_add_c]
    · rw [h j (by omega) e, zero_mul_c, add_zero_c]
      by_cases e2 : i < j
      · rw [if_pos e2, if_pos (by omega)]
      · rw [if_neg e2, if_neg (by omega)]
end Go.Proofs.Ytdpjknjlhchmcaa

namespace Go.Proofs.Ytdpjknjlhchmcaa
open Go.RowKit Pl
set_option linter.unusedVariables false
set_option linter.unusedSimpArgs false
end Go.Proofs.Ytdpjknjlhchmcaa

namespace Go.Proofs.Ytdpjknjlhchmcaa
open Go.RowKit Pl
set_option linter.unusedVariables false
set_option linter.unusedSimpArgs false
end Go.Proofs.Ytdpjknjlhchmcaa

namespace Go.Proofs.Ytdpjknjlhchmcaa
open Go.RowKit Pl
set_option linter.unusedVariables false
set_option linter.unusedSimpArgs false
/-- The sum of the first j products of row i with a vector. -/
def rsum (f : Nat → Nat → Cx) (x : Nat → Cx) (i : Nat) : Nat → Cx
  | 0 => Cx.zero
  | j + 1 => (rsum f x i j).add ((f i j).mul (x j))
/-- x solves the n equations; the right-hand side stands in column n. -/
def Sol (n : Nat) (f : Nat → Nat → Cx) (x : Nat → Cx) : Prop := ∀ i, i < n → rsum f x i n = f i n
theorem rsum_row {f f' : Nat → Nat → Cx} {x : Nat → Cx} {i i' : Nat} : ∀ j, (∀ k, k < j → f i k = f' i' k) → rsum f x i j = rsum f' x i' j := by
  intro j
  induction j with
  | zero => intro _; rfl
  | succ j ih => intro h; simp only [rsum]; rw [ih fun k hk => h k (by omega), h j (by omega)]
theorem Sol.congr {n : Nat} {f g : Nat → Nat → Cx} {x : Nat → Cx} (h : Sol n f x) (e : ∀ i k, i < n → k < n + 1 → g i k = f i k) : Sol n g x := by
  intro i hi
  rw [e i n hi (by omega), ← h i hi]
  exact rsum_row n fun k hk => e i k hi (by omega)
theorem rsum_rows {f : Nat → Nat → Cx} {c : Nat} {t : Nat → Cx} {x : Nat → Cx} (i : Nat) : ∀ j, rsum (rows c t f) x i j = (rsum f x i j).sub ((t i).mul (rsum f x c j)) := by
  intro j
  induction j with
  | zero => simp only [rsum]; rw [sub_zero_c]
  | succ j ih =>
    simp only [rsum]
    rw [ih]
    unfold rows
    refine Cx.ext' ?_ ?_ <;> simp only [Cx.add, Cx.sub, Cx.neg, Cx.mul] <;> grind
theorem Sol.rows {n c : Nat} {f : Nat → Nat → Cx} {t : Nat → Cx} {x : Nat → Cx} (hc : c < n) (h : Sol n f x) : Sol n (rows c t f) x := by
  intro i hi
  rw [rsum_rows, h i hi, h c hc]
  rfl
/-- Back substitution: what is left of row i behind the first j of the columns i + 1, .. -/
def bsub (f : Nat → Nat → Cx) (x : Nat → Cx) (n i : Nat) : Nat → Cx
  | 0 => f i n
  | j + 1 => (bsub f x n i j).sub ((f i (i + 1 + j)).mul (x (i + 1 + j)))
/-- .. the last d unknowns. -/
def back (f : Nat → Nat → Cx) (n : Nat) : Nat → Nat → Cx
  | 0 => fun _ => Cx.zero
  | d + 1 => fun i => if i = n - 1 - d then (bsub f (back f n d) n i d).div (f i i) else back f n d i
end Go.Proofs.Ytdpjknjlhchmcaa

namespace Go.Proofs.Ytdpjknjlhchmcaa
open Go.RowKit Pl
set_option linter.unusedVariables false
set_option linter.unusedSimpArgs false
/-- The identity's size and entries. -/
def idn (n : Int) : Nat := if n < 0 then 0 else if 32 < n then 32 else n.toNat
def idm (i j : Nat) : Cx := if i = j then Cx.ofInt 1 else Cx.ofInt 0
end Go.Proofs.Ytdpjknjlhchmcaa
