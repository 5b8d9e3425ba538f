/- Part 5 of the proof. -/
import Derived.Test.YtgpmlhpgdalheaaGreatNS1
import Derived.ProofKit
import Derived.OpenShut
import Derived.ReadAgain
import Derived.Below
import Derived.Deep.Slices
import Derived.Lib.SmallJoins
import Derived.Deep.SlicePairs
import Derived.Test.YtgpmlhpgdalheaaGreatNS3
import Derived.Deep.LoopGhost
namespace Go.Proofs.YtgpmlhpgdalheaaGreat
open Go.ChangeShapes Go.WideShapes Go.ChangeAt Go.RowKit Go.Joins Go.Deep Pl
set_option linter.unusedVariables false
section
variable {H : Type} {enc : TypeId × Value → H} {P : Program}
theorem trodAll_carry {w w' : World} {base : Nat} {spare : Nat → Bool} {held : Bool} : ∀ {ts : List TypeId} {vs : List Value} {ds : List (DataW H)} {ps : List MemPlace}, DataW.TrodAll enc P w base spare held ts vs ds ps → (∀ p ∈ ps, w.sameAt w' p) → DataW.TrodAll enc P w' base spare held ts vs ds ps
  | [], [], [], _, h, _ => h
  | _ :: _, _ :: _, _ :: _, _, ⟨p, q, ⟨n, h1⟩, h2, e⟩, hs => ⟨p, q, ⟨n, DataW.trod_carry n _ _ _ h1 (fun x hx => hs x (by rw [e]; exact List.mem_append_left _ hx))⟩, trodAll_carry h2 (fun x hx => hs x (by rw [e]; exact List.mem_append_right _ hx)), e⟩
/-- Arguments that are only read: what is asked behind the call. -/
theorem read_post {f : Func} {s : ChangeSpec} {apart : Bool} {W W' : World} {args : Array Value} {v : Value} {ds : List (DataW H)} {before : List MemPlace}
    (K : Kids P (· < P.types.size)) (hz : ∀ t e, t < P.types.size → P.underlying t = some (.slice e) → 0 < P.cellsOf e) (hpt : ∀ t ∈ f.params.toList, t < P.types.size)
    (hW : DataW.Whole enc P f.params.toList s.vars apart W args.toList ds [] before) (hA : DataW.TrodAll enc P W 0 (fun _ => true) true f.params.toList args.toList ds before)
    (hres : ∀ (b : Nat) (sp : Nat → Bool) (hd : Bool), DataW.TrodAll enc P W' b sp hd f.resultTypes.toList (v.resultList f.resultTypes.size) (s.fn H (ds ++ [])).results [])
    (hargs : (s.fn H (ds ++ [])).args = ds) (hvars : ∀ sp : Nat → Bool, DataW.TrodVars enc P W' sp s.vars (s.fn H (ds ++ [])).vars [])
    (hb : Below W.heap.size W W') : s.post enc P f apart true false false W args v W' := by
  have hlt := hA.lt
  have hsame : ∀ p ∈ before, W.sameAt W' p := by
    intro p hp
    have hl := hlt p hp
    cases p with
    | cell b off => exact hb.cell (p := ⟨b, off, none⟩) hl
    | map b => exact hb.block b hl
  refine ⟨ds, [], before, [], before, [], hW, hres _ _ _, ?_, hvars _, hb.frame _, fun h => by cases h⟩
  rw [hargs]
  exact trodAll_carry (hA.respare K hz hpt (fun p hp => by simpa using hlt p hp)) hsame
/-- What a slice of structs of three int64s holds. -/
def Triples (w : World) (A : Option Addr) (n : Nat) (X Y Z : Nat → Int) : Prop := ∀ i, i < n → ∃ b off, A = some ⟨b, off, none⟩ ∧ b < w.heap.size ∧
  w.cell? ⟨b, off + i * 3, none⟩ = some (.int .i64 (X i)) ∧ w.cell? ⟨b, off + i * 3 + 1, none⟩ = some (.int .i64 (Y i)) ∧ w.cell? ⟨b, off + i * 3 + 2, none⟩ = some (.int .i64 (Z i)) ∧
  (-9223372036854775808 ≤ X i ∧ X i ≤ 9223372036854775807) ∧ (-9223372036854775808 ≤ Y i ∧ Y i ≤ 9223372036854775807) ∧ (-9223372036854775808 ≤ Z i ∧ Z i ≤ 9223372036854775807)
theorem Triples.to {w w' : World} {A : Option Addr} {n : Nat} {X Y Z : Nat → Int} (h : Triples w A n X Y Z) (hb : Below w.heap.size w w') : Triples w' A n X Y Z := by
  intro i hi
  obtain ⟨b, off, e, hl, c0, c1, c2, r⟩ := h i hi
  exact ⟨b, off, e, Nat.lt_of_lt_of_le hl hb.size, (hb.cell (p := ⟨b, _, none⟩) hl).trans c0, (hb.cell (p := ⟨b, _, none⟩) hl).trans c1, (hb.cell (p := ⟨b, _, none⟩) hl).trans c2, r⟩
theorem add_none {a : Addr} (k : Nat) (h : a.spot = none) : a.add k = ⟨a.block, a.off + k, none⟩ := by
  unfold Addr.add
  split
  · rename_i h0; subst h0; cases a; simp_all
  · rfl
/-- A slice of structs of three int64s, opened. -/
theorem open_triples {W : World} {t e q : TypeId} {f0 f1 f2 : Field} {v : Value} {d : DataW H} {ps : List MemPlace} (ht : P.underlying t = some (.slice e)) (he : P.underlying e = some (.struct #[f0, f1, f2])) (ce : P.cellsOf e = 3)
    (o0 : f0.offset = 0 ∧ f0.type = q) (o1 : f1.offset = 1 ∧ f1.type = q) (o2 : f2.offset = 2 ∧ f2.type = q) (hq : P.underlying q = some (.int .i64)) (cq : P.cellsOf q = 1)
    (hv : v.cells = #[v]) (h : DataW.Trod enc P W 0 (fun _ => true) true t v d ps) :
    ∃ (A : Option Addr) (len cap : Nat) (X Y Z : Nat → Int), v = .slice A len cap ∧ len ≤ cap ∧ cap ≤ maxLen ∧ Triples W A len X Y Z := by
  obtain ⟨fuel, hf⟩ := h
  rw [hv] at hf
  rcases open_slice ht hf with ⟨hcs, _⟩ | ⟨a, len, cap, m, n, D, Pl, hcs, hb, hl, hm, hmm, hx, hel⟩
  · simp only [List.cons.injEq, and_true] at hcs
    exact ⟨none, 0, 0, fun _ => 0, fun _ => 0, fun _ => 0, hcs, Nat.le_refl _, by unfold maxLen; omega, fun i hi => absurd hi (by omega)⟩
  · simp only [List.cons.injEq, and_true] at hcs
    have hm' : m = cap := hmm
    have each : ∀ i, i < len → ∃ z : Int × Int × Int, a.spot = none ∧ W.cell? ⟨a.block, a.off + i * 3, none⟩ = some (.int .i64 z.1) ∧ W.cell? ⟨a.block, a.off + i * 3 + 1, none⟩ = some (.int .i64 z.2.1) ∧ W.cell? ⟨a.block, a.off + i * 3 + 2, none⟩ = some (.int .i64 z.2.2) ∧
        (Lit.int .i64 z.1).wf = true ∧ (Lit.int .i64 z.2.1).wf = true ∧ (Lit.int .i64 z.2.2).wf = true := by
      intro i hi
      obtain ⟨c0', h01, h02⟩ := hel 0 (by omega)
      obtain ⟨_, l0, hc0⟩ := World.cells?_some h01
      have hsp : a.spot = none := by
        rw [ce] at l0 hc0
        have e0 := hc0 0 (by omega)
        have ez : ((a.add (0 * 3)).add 0) = a := by simp [Addr.add]
        rw [ez] at e0
        cases hs : a.spot with
        | none => rfl
        | some x =>
          have hlen : 0 < c0'.length := by omega
          rw [List.getElem?_eq_getElem hlen] at e0
          simp only [World.cell?] at e0
          split at e0
          · simp [hs] at e0
          · cases e0
      obtain ⟨cs', h1, h2⟩ := hel i (by omega)
      rw [ce] at h1
      obtain ⟨_, hlen, hcell⟩ := World.cells?_some h1
      obtain ⟨xs, k, hk, hxy, _, hxl, hff⟩ := DataW.trod_struct he h2
      match xs, hxl, cs', hlen with
      | [y0, y1, y2], _, [v0, v1, v2], _ =>
        have g0 := hff 0 f0 rfl
        have g1 := hff 1 f1 rfl
        have g2 := hff 2 f2 rfl
        simp [o0.1, o0.2, o1.1, o1.2, o2.1, o2.2, cq] at g0 g1 g2
        obtain ⟨z0, e0, _, w0⟩ := DataW.trod_int hq g0
        obtain ⟨z1, e1, _, w1⟩ := DataW.trod_int hq g1
        obtain ⟨z2, e2, _, w2⟩ := DataW.trod_int hq g2
        have k0 := hcell 0 (by omega)
        have k1 := hcell 1 (by omega)
        have k2 := hcell 2 (by omega)
        rw [add_add, add_none _ hsp] at k0 k1 k2
        simp at e0 e1 e2
        subst e0 e1 e2
        exact ⟨(z0, z1, z2), hsp, by simpa using k0, by simpa [Nat.add_assoc] using k1, by simpa [Nat.add_assoc] using k2, w0, w1, w2⟩
    obtain ⟨z, hz⟩ := choose_lt each
    refine ⟨some a, len, cap, fun i => (z i).1, fun i => (z i).2.1, fun i => (z i).2.2, hcs, hl, hm, fun i hi => ?_⟩
    obtain ⟨hsp, c0, c1, c2, w0, w1, w2⟩ := hz i hi
    have hlt : a.block < W.heap.size := by
      obtain ⟨c0', h01, _⟩ := hel 0 (by omega)
      have := World.cells?_block h01 (by rw [ce]; omega)
      simpa [Addr.add] using this
    exact ⟨a.block, a.off, by cases a; simp_all, hlt, c0, c1, c2, bounds_i64 w0, bounds_i64 w1, bounds_i64 w2⟩
end
end Go.Proofs.YtgpmlhpgdalheaaGreat

namespace Go.Proofs.YtgpmlhpgdalheaaGreat
open Go.RowKit Pl
set_option linter.unusedVariables false
set_option linter.unusedSimpArgs false
/-- A number of the program lies at the offset o of the block g. -/
def PE (w : World) (g o : Nat) (q : Cx) : Prop := ∃ A1 A2 A3, (w.cell? ⟨g, o, none⟩ = some (.bool (sn (na q))) ∧ w.cell? ⟨g, o + 1, none⟩ = some (.slice A1 (ln (ab (na q))) (ln (ab (na q)))) ∧ w.cell? ⟨g, o + 2, none⟩ = some (.bool (sn (nb q))) ∧ w.cell? ⟨g, o + 3, none⟩ = some (.slice A2 (ln (ab (nb q))) (ln (ab (nb q)))) ∧ w.cell? ⟨g, o + 4, none⟩ = some (.slice A3 (ln (un q)) (ln (un q)))) ∧ Num3 w A1 A2 A3 q
theorem PE.lt {w : World} {g o : Nat} {q : Cx} (h : PE w g o q) : g < w.heap.size := by
  obtain ⟨_, _, _, ⟨c0, _⟩, _⟩ := h
  exact World.block_lt_of_cell? w ⟨g, o, none⟩ c0
theorem PE.to {w w' : World} {g o : Nat} {q : Cx} (h : PE w g o q) (hb : Below w.heap.size w w') : PE w' g o q := by
  have l := h.lt
  obtain ⟨A1, A2, A3, ⟨c0, c1, c2, c3, c4⟩, n⟩ := h
  exact ⟨A1, A2, A3, ⟨keepc hb c0 l, keepc hb c1 l, keepc hb c2 l, keepc hb c3 l, keepc hb c4 l⟩, n.to hb⟩
/-- A number is stored at the offset o of the block p. -/
def set5o (w : World) (p o : Nat) (q : Cx) (A1 A2 A3 : Option Addr) : World :=
  ((((w.setCell ⟨p, o, none⟩ (.bool (sn (na q)))).setCell ⟨p, o + 1, none⟩ (.slice A1 (ln (ab (na q))) (ln (ab (na q))))).setCell ⟨p, o + 2, none⟩ (.bool (sn (nb q)))).setCell ⟨p, o + 3, none⟩ (.slice A2 (ln (ab (nb q))) (ln (ab (nb q))))).setCell ⟨p, o + 4, none⟩ (.slice A3 (ln (un q)) (ln (un q)))
theorem set5o_size (w : World) (p o : Nat) (q : Cx) (A1 A2 A3 : Option Addr) : (set5o w p o q A1 A2 A3).heap.size = w.heap.size := by simp [set5o, World.setCell]
theorem set5o_cell {w : World} {p o b i : Nat} {q : Cx} {A1 A2 A3 : Option Addr} {v : Value} (h : w.cell? ⟨b, i, none⟩ = some v) (h1 : b ≠ p ∨ i < o ∨ o + 5 ≤ i) : (set5o w p o q A1 A2 A3).cell? ⟨b, i, none⟩ = some v := keepo (keepo (keepo (keepo (keepo h (by omega)) (by omega)) (by omega)) (by omega)) (by omega)
theorem set5o_below {w W : World} {B p o : Nat} {q : Cx} {A1 A2 A3 : Option Addr} (h : Below B w W) (hp : B ≤ p) : Below B w (set5o W p o q A1 A2 A3) :=
  ((((h.setCell (by exact hp) _).setCell (by exact hp) _).setCell (by exact hp) _).setCell (by exact hp) _).setCell (by exact hp) _
/-- A block whose first cell is no integer holds no number's words. -/
theorem nat_set {w : World} {p o n : Nat} {A : Option Addr} {c : Bool} {v : Value} (h : Nat32 w A n) (u : w.cell? ⟨p, 0, none⟩ = some (.bool c)) : Nat32 (w.setCell ⟨p, o, none⟩ v) A n :=
  h.setBox u (by intro k m e; cases e)
theorem bool_set {w : World} {p o : Nat} {c d : Bool} {v : Value} (u : w.cell? ⟨p, 0, none⟩ = some (.bool c)) (h : o ≠ 0 ∨ v = .bool d) : ∃ e, (w.setCell ⟨p, o, none⟩ v).cell? ⟨p, 0, none⟩ = some (.bool e) := by
  by_cases ho : o = 0
  · subst ho
    rcases h with h | h
    · exact absurd rfl h
    · subst h; exact ⟨d, cell_self u⟩
  · exact ⟨c, keepo u (.inr (by omega))⟩
theorem set5o_nat {w : World} {p o n : Nat} {q : Cx} {A1 A2 A3 A : Option Addr} {c : Bool} (h : Nat32 w A n) (u : w.cell? ⟨p, 0, none⟩ = some (.bool c)) : Nat32 (set5o w p o q A1 A2 A3) A n := by
  obtain ⟨e1, a1⟩ := bool_set (o := o) (v := .bool (sn (na q))) u (.inr rfl)
  obtain ⟨e2, a2⟩ := bool_set (d := false) (o := o + 1) (v := .slice A1 (ln (ab (na q))) (ln (ab (na q)))) a1 (.inl (by omega))
  obtain ⟨e3, a3⟩ := bool_set (d := false) (o := o + 2) (v := .bool (sn (Pl.nb q))) a2 (.inl (by omega))
  obtain ⟨e4, a4⟩ := bool_set (d := false) (o := o + 3) (v := .slice A2 (ln (ab (Pl.nb q))) (ln (ab (Pl.nb q)))) a3 (.inl (by omega))
  exact nat_set (nat_set (nat_set (nat_set (nat_set h u) a1) a2) a3) a4
theorem set5o_bool {w : World} {p o : Nat} {q : Cx} {A1 A2 A3 : Option Addr} {c : Bool} (u : w.cell? ⟨p, 0, none⟩ = some (.bool c)) : ∃ e, (set5o w p o q A1 A2 A3).cell? ⟨p, 0, none⟩ = some (.bool e) := by
  obtain ⟨e1, a1⟩ := bool_set (o := o) (v := .bool (sn (na q))) u (.inr rfl)
  obtain ⟨e2, a2⟩ := bool_set (d := false) (o := o + 1) (v := .slice A1 (ln (ab (na q))) (ln (ab (na q)))) a1 (.inl (by omega))
  obtain ⟨e3, a3⟩ := bool_set (d := false) (o := o + 2) (v := .bool (sn (Pl.nb q))) a2 (.inl (by omega))
  obtain ⟨e4, a4⟩ := bool_set (d := false) (o := o + 3) (v := .slice A2 (ln (ab (Pl.nb q))) (ln (ab (Pl.nb q)))) a3 (.inl (by omega))
  exact bool_set (d := false) (o := o + 4) (v := .slice A3 (ln (un q)) (ln (un q))) a4 (.inl (by omega))
theorem set5o_num3 {w : World} {p o : Nat} {q r : Cx} {A1 A2 A3 B1 B2 B3 : Option Addr} {c : Bool} (h : Num3 w B1 B2 B3 r) (u : w.cell? ⟨p, 0, none⟩ = some (.bool c)) : Num3 (set5o w p o q A1 A2 A3) B1 B2 B3 r := ⟨set5o_nat h.1 u, set5o_nat h.2.1 u, set5o_nat h.2.2 u⟩
theorem PE.set5o {w : World} {g p o i : Nat} {q r : Cx} {A1 A2 A3 : Option Addr} {c : Bool} (h : PE w g i r) (hn : g ≠ p ∨ i + 5 ≤ o ∨ o + 5 ≤ i) (k : w.cell? ⟨p, 0, none⟩ = some (.bool c)) : PE (set5o w p o q A1 A2 A3) g i r := by
  obtain ⟨B1, B2, B3, ⟨c0, c1, c2, c3, c4⟩, n⟩ := h
  exact ⟨B1, B2, B3, ⟨set5o_cell c0 (by omega), set5o_cell c1 (by omega), set5o_cell c2 (by omega), set5o_cell c3 (by omega), set5o_cell c4 (by omega)⟩, set5o_num3 n k⟩
theorem pe_set {w : World} {p o m : Nat} {T : TypeId} {F : Nat → Value} {q : Cx} {A1 A2 A3 : Option Addr} {c : Bool} (hr : w.rowIs p T m F) (ho : o + 5 ≤ m) (k : w.cell? ⟨p, 0, none⟩ = some (.bool c)) (n : Num3 w A1 A2 A3 q) : PE (set5o w p o q A1 A2 A3) p o q := by
  refine ⟨A1, A2, A3, ?_, set5o_num3 n k⟩
  have u0 := hr.cell (i := o) (by omega)
  have u1 := hr.cell (i := o + 1) (by omega)
  have u2 := hr.cell (i := o + 2) (by omega)
  have u3 := hr.cell (i := o + 3) (by omega)
  have u4 := hr.cell (i := o + 4) (by omega)
  unfold Proofs.YtgpmlhpgdalheaaGreat.set5o
  have o0 := cell_self (u := .bool (sn (na q))) u0
  refine ⟨?_, ?_, ?_, ?_, ?_⟩
  · exact keepo (keepo (keepo (keepo o0 (by omega)) (by omega)) (by omega)) (by omega)
  · exact keepo (keepo (keepo (cell_self (keepo u1 (by omega))) (by omega)) (by omega)) (by omega)
  · exact keepo (keepo (cell_self (keepo (keepo u2 (by omega)) (by omega))) (by omega)) (by omega)
  · exact keepo (cell_self (keepo (keepo (keepo u3 (by omega)) (by omega)) (by omega))) (by omega)
  · exact cell_self (keepo (keepo (keepo (keepo u4 (by omega)) (by omega)) (by omega)) (by omega))
/-- The block holds a row of m cells, whatever they are; the first one is a bool. -/
def RowB (w : World) (g : Nat) (T : TypeId) (m : Nat) : Prop := (∃ F, w.rowIs g T m F) ∧ ∃ c, w.cell? ⟨g, 0, none⟩ = some (.bool c)
theorem RowB.lt {w : World} {g m : Nat} {T : TypeId} (h : RowB w g T m) : g < w.heap.size := by
  obtain ⟨⟨F, h⟩, _⟩ := h; exact h.lt
theorem RowB.to {w w' : World} {g m : Nat} {T : TypeId} (h : RowB w g T m) (hb : Below w.heap.size w w') : RowB w' g T m := by
  have l := h.lt
  obtain ⟨⟨F, h⟩, c, k⟩ := h
  exact ⟨⟨F, h.of_block (hb.block g l)⟩, c, keepc hb k l⟩
theorem RowB.set5o {w : World} {g p o m : Nat} {T : TypeId} {q : Cx} {A1 A2 A3 : Option Addr} (h : RowB w g T m) : RowB (set5o w p o q A1 A2 A3) g T m := by
  obtain ⟨⟨F, h⟩, c, k⟩ := h
  by_cases e : g = p
  · subst e
    refine ⟨⟨_, ((((h.set _ _).set _ _).set _ _).set _ _).set _ _⟩, set5o_bool k⟩
  · refine ⟨⟨F, ((((h.setOther (a := ⟨p, o, none⟩) e _).setOther (a := ⟨p, o + 1, none⟩) e _).setOther (a := ⟨p, o + 2, none⟩) e _).setOther (a := ⟨p, o + 3, none⟩) e _).setOther (a := ⟨p, o + 4, none⟩) e _⟩, c, set5o_cell k (.inl e)⟩
end Go.Proofs.YtgpmlhpgdalheaaGreat

namespace Go.Proofs.YtgpmlhpgdalheaaGreat
open Go.RowKit Pl
set_option linter.unusedVariables false
set_option linter.unusedSimpArgs false
/-- The five cells of a new number. -/
def Z5 : Array Value := #[.bool false, .slice none 0 0, .bool false, .slice none 0 0, .slice none 0 0]
/-- 'make' of n numbers. -/
def mkN (w : World) (n : Nat) (T : TypeId) : World := w.alloc (.cells (madeCells Z5 (n * 5)) T)
theorem mkN_size (w : World) (n : Nat) (T : TypeId) : (mkN w n T).heap.size = w.heap.size + 1 := by simp [mkN]
theorem mkN_below (w : World) (n : Nat) (T : TypeId) : Below w.heap.size w (mkN w n T) := (Below.refl _ _).alloc (Nat.le_refl _) _
theorem mkN_row (w : World) (n : Nat) (T : TypeId) (hn : 0 < n) : RowB (mkN w n T) w.heap.size T (n * 5) := by
  have h := World.rowIs_alloc w (madeCells Z5 (n * 5)) T (fun j => Z5[j % 5]!) (fun i hi => by rw [size_madeCells] at hi; simp [madeCells, hi]; rfl)
  rw [size_madeCells] at h
  refine ⟨⟨_, h⟩, false, ?_⟩
  exact h.cell (i := 0) (by omega)
theorem mk_nums (n : Nat) (hn : n ≤ 100000) (w : World) : (Instr.makeSlice 54 (.int .i64 (n : Int)) (.int .i64 (n : Int))).run Tryz.prog w = .ok (.slice (some ⟨w.heap.size, 0, none⟩) n n) (mkN w n 30) := by
  obtain ⟨i, hi, hz, hs, hb⟩ := info_parts Tryz.info_num
  have := run_make (P := Tryz.prog) w 54 _ i _ Tryz.und_nums hi hz .i64 .i64 n n (by omega) (by omega) (by rw [hb]; omega) (by omega)
  simpa [hs, mkN, Z5, Value.cells] using this
/-- What List hands back: a new row of numbers. -/
def RetPL (w : World) (n : Nat) (f : Nat → Cx) (e : Ending) (w' : World) : Prop := ∃ g, e = .returned (.slice (some ⟨g, 0, none⟩) n n) ∧ w.heap.size ≤ g ∧ (0 < n → RowB w' g 30 (n * 5)) ∧ (∀ i, i < n → PE w' g (i * 5) (f i)) ∧ Below w.heap.size w w'
set_option maxHeartbeats 4000000 in
theorem list_any (w : World) (A : Option Addr) (n c : Nat) (X Y Z : Nat → Int) (hT : Triples w A n X Y Z) (hn : n ≤ 1000) :
    Calls Tryz.prog 24 #[.slice A n c] w (RetPL w n fun i => ofv (X i) (Y i) (Z i)) := by
  have hmk := mk_nums n (by omega)
  go_enter Tryz.func24, Tryz.ntmps24
  go_wp2_with fail
  clear hmk
  have hrow := mkN_row w n 30
  have hbel := mkN_below w n 30
  have hsz := mkN_size w n 30
  generalize mkN w n 30 = W0 at *
  go_loopw [11] (fun i wr => ∃ k : Nat, k ≤ n ∧ i = .int .i64 k ∧ w.heap.size < wr.heap.size ∧ (0 < n → RowB wr w.heap.size 30 (n * 5)) ∧ (∀ j, j < k → PE wr w.heap.size (j * 5) (ofv (X j) (Y j) (Z j))) ∧ Below w.heap.size w wr) (fun i _ => n - (intOf i).toNat)
  case atStart => exact ⟨0, Nat.zero_le _, rfl, by omega, hrow, fun j hj => absurd hj (by omega), hbel⟩
  case round =>
    obtain ⟨k, hk, rfl, hsz', hrow', hpe, hbel'⟩ := hrel
    clear hrow hbel hsz
    by_cases hlt : k < n
    · obtain ⟨b, off, rfl, hl, c0, c1, c2, rx, ry, rz⟩ := hT k hlt
      have d0 := (hbel'.cell (p := ⟨b, off + k * 3, none⟩) hl).trans c0
      have d1 := (hbel'.cell (p := ⟨b, off + k * 3 + 1, none⟩) hl).trans c1
      have d2 := (hbel'.cell (p := ⟨b, off + k * 3 + 2, none⟩) hl).trans c2
      clear c0 c1 c2
      have hb2 : b < wr.heap.size := by omega
      generalize hX : X k = x at *
      generalize hY : Y k = y at *
      generalize hZ : Z k = z at *
      clear hT
      go_wp2_with fail
      refine (of_any x y z _ rx ry rz).mono ?_
      rintro e w1 ⟨A1, A2, A3, rfl, n1, hb⟩
      replace hb := unalloc hb
      replace hrow' := (hrow' (by omega)).to hb
      replace hpe := fun j hj => (hpe j hj).to hb
      replace hbel' := hbel'.trans (hb.mono hbel'.size)
      replace hsz' := Nat.lt_of_lt_of_le hsz' hb.size
      clear hb d0 d1 d2 hb2 hl
      have hrow2 := hrow'
      obtain ⟨⟨F, hF⟩, c1, hc1⟩ := hrow'
      have u0 := hF.cell (i := k * 5) (by omega)
      have u1 := hF.cell (i := k * 5 + 1) (by omega)
      have u2 := hF.cell (i := k * 5 + 2) (by omega)
      have u3 := hF.cell (i := k * 5 + 3) (by omega)
      have u4 := hF.cell (i := k * 5 + 4) (by omega)
      have f0 := hF.frozen (k * 5)
      have f1 := hF.frozen (k * 5 + 1)
      have f2 := hF.frozen (k * 5 + 2)
      have f3 := hF.frozen (k * 5 + 3)
      have f4 := hF.frozen (k * 5 + 4)
      have hk5 : k * 5 + 5 ≤ n * 5 := by omega
      have hp := pe_set hF hk5 hc1 n1
      clear hF
      generalize hq : ofv x y z = q at *
      go_wp2_with fail
      obtain ⟨V, hV⟩ : ∃ V : World, V = set5o w1 w.heap.size (k * 5) q A1 A2 A3 := ⟨_, rfl⟩
      have hw : set5o w1 w.heap.size (k * 5) q A1 A2 A3 = V := hV.symm
      unfold set5o at hw
      rw [hw]
      clear hw
      go_roundw
      case rel =>
        refine ⟨k + 1, by omega, by go_num, ?_, fun _ => ?_, fun j hj => ?_, ?_⟩
        · rw [hV, set5o_size]; exact hsz'
        · rw [hV]; exact hrow2.set5o
        · rw [hV]
          by_cases e : j = k
          · subst e; rw [hX, hY, hZ, hq]; exact hp
          · exact (hpe j (by omega)).set5o (.inr (.inl (by omega))) hc1
        · rw [hV]; exact set5o_below hbel' (Nat.le_refl _)
      case measure => simp [intOf]; omega
    · obtain rfl : k = n := by omega
      go_wp2_with fail
      go_ret
      exact ⟨_, rfl, Nat.le_refl _, hrow', hpe, hbel'⟩
end Go.Proofs.YtgpmlhpgdalheaaGreat

namespace Go.Proofs.YtgpmlhpgdalheaaGreat
open Go.RowKit Pl
set_option linter.unusedVariables false
set_option linter.unusedSimpArgs false
theorem sz_re {K : Nat} {x : Cx} (hx : sz K x) : sz K x.reOf := by
  rw [← re_fr]; exact fr_sz (nd_ne0 x) hx.1 (by show ln 0 ≤ K; rw [ln_zero]; omega) hx.2.2
set_option maxHeartbeats 4000000 in
theorem re_num (x : Cx) (A1 A2 A3 : Option Addr) (w : World) (hx : Num3 w A1 A2 A3 x) (hsx : sz 137438953472 x) :
    Calls Tryz.prog 40 #[.agg #[.bool (sn (na x)), .slice A1 (ln (ab (na x))) (ln (ab (na x))), .bool (sn (nb x)), .slice A2 (ln (ab (nb x))) (ln (ab (nb x))), .slice A3 (ln (un x)) (ln (un x))]] w (RetNum w x.reOf) := by
  obtain ⟨hx1, hx2, hx3⟩ := hx
  have HSX := Lib.hid hsx
  clear hsx
  rw [← re_fr]
  go_enter Tryz.func40, Tryz.ntmps40
  go_wp2_with fail
  obtain ⟨W, hW⟩ : ∃ W : World, W = ((w.alloc (.cells #[.bool (sn (na x)), .slice A1 (ln (ab (na x))) (ln (ab (na x))), .bool (sn (nb x)), .slice A2 (ln (ab (nb x))) (ln (ab (nb x))), .slice A3 (ln (un x)) (ln (un x))] 30)).alloc (.cells #[.bool false, .slice none 0 0, .bool false, .slice none 0 0, .slice none 0 0] 30)) := ⟨_, rfl⟩
  have s0_0 : W.cell? ⟨w.heap.size, 0, none⟩ = some (.bool (sn (na x))) := by subst hW; go_simp
  have s0_1 : W.cell? ⟨w.heap.size, 1, none⟩ = some (.slice A1 (ln (ab (na x))) (ln (ab (na x)))) := by subst hW; go_simp
  have s0_2 : W.cell? ⟨w.heap.size, 2, none⟩ = some (.bool (sn (nb x))) := by subst hW; go_simp
  have s0_3 : W.cell? ⟨w.heap.size, 3, none⟩ = some (.slice A2 (ln (ab (nb x))) (ln (ab (nb x)))) := by subst hW; go_simp
  have s0_4 : W.cell? ⟨w.heap.size, 4, none⟩ = some (.slice A3 (ln (un x)) (ln (un x))) := by subst hW; go_simp
  have r0 : W.cell? ⟨w.heap.size + 1, 0, none⟩ = some (.bool false) := by subst hW; go_simp
  have f0 : W.frozen? ⟨w.heap.size + 1, 0, none⟩ = false := by subst hW; go_simp
  have r1 : W.cell? ⟨w.heap.size + 1, 1, none⟩ = some (.slice none 0 0) := by subst hW; go_simp
  have f1 : W.frozen? ⟨w.heap.size + 1, 1, none⟩ = false := by subst hW; go_simp
  have r2 : W.cell? ⟨w.heap.size + 1, 2, none⟩ = some (.bool false) := by subst hW; go_simp
  have f2 : W.frozen? ⟨w.heap.size + 1, 2, none⟩ = false := by subst hW; go_simp
  have r3 : W.cell? ⟨w.heap.size + 1, 3, none⟩ = some (.slice none 0 0) := by subst hW; go_simp
  have f3 : W.frozen? ⟨w.heap.size + 1, 3, none⟩ = false := by subst hW; go_simp
  have r4 : W.cell? ⟨w.heap.size + 1, 4, none⟩ = some (.slice none 0 0) := by subst hW; go_simp
  have f4 : W.frozen? ⟨w.heap.size + 1, 4, none⟩ = false := by subst hW; go_simp
  have HW : Below w.heap.size w W := by subst hW; exact (((Below.refl w.heap.size w).alloc (Nat.le_refl _) _).alloc (by simp) _)
  have l0 : w.heap.size < W.heap.size := by subst hW; simp <;> omega
  have l1 : w.heap.size + 1 < W.heap.size := by subst hW; simp
  have n0 : w.heap.size ≠ w.heap.size + 1 := by omega
  replace hx1 := hx1.to HW
  replace hx2 := hx2.to HW
  replace hx3 := hx3.to HW
  rw [← hW]
  clear hW
  replace HW := Lib.hid HW
  go_region_held3 (fun w' => w'.cell? ⟨w.heap.size, 0, none⟩ = some (.bool (sn (na x))) ∧ w'.cell? ⟨w.heap.size, 1, none⟩ = some (.slice A1 (ln (ab (na x))) (ln (ab (na x)))) ∧ w'.cell? ⟨w.heap.size, 2, none⟩ = some (.bool (sn (nb x))) ∧ w'.cell? ⟨w.heap.size, 3, none⟩ = some (.slice A2 (ln (ab (nb x))) (ln (ab (nb x)))) ∧ w'.cell? ⟨w.heap.size, 4, none⟩ = some (.slice A3 (ln (un x)) (ln (un x)))) (first | with_reducible exact ⟨s0_0, s0_1, s0_2, s0_3, s0_4⟩ | with_reducible exact ⟨(keeps (keeps (keeps (keeps (keeps s0_0 n0) n0) n0) n0) n0), (keeps (keeps (keeps (keeps (keeps s0_1 n0) n0) n0) n0) n0), (keeps (keeps (keeps (keeps (keeps s0_2 n0) n0) n0) n0) n0), (keeps (keeps (keeps (keeps (keeps s0_3 n0) n0) n0) n0) n0), (keeps (keeps (keeps (keeps (keeps s0_4 n0) n0) n0) n0) n0)⟩ | exact ⟨s0_0, s0_1, s0_2, s0_3, s0_4⟩) (first
    | (go_at_call 89; refine (den_any x A1 A2 A3 _ (by exact num3_mk hx1 hx2 hx3)).mono ?_; rintro e w1 ⟨D1, rfl, h1, hb1⟩; have hb1 := undrew hb1; replace s0_0 := keepc hb1 s0_0 l0; replace s0_1 := keepc hb1 s0_1 l0; replace s0_2 := keepc hb1 s0_2 l0; replace s0_3 := keepc hb1 s0_3 l0; replace s0_4 := keepc hb1 s0_4 l0; replace r0 := keepc hb1 r0 l1; replace f0 := keepf hb1 f0 l1; replace r1 := keepc hb1 r1 l1; replace f1 := keepf hb1 f1 l1; replace r2 := keepc hb1 r2 l1; replace f2 := keepf hb1 f2 l1; replace r3 := keepc hb1 r3 l1; replace f3 := keepf hb1 f3 l1; replace r4 := keepc hb1 r4 l1; replace f4 := keepf hb1 f4 l1; replace l0 := Nat.lt_of_lt_of_le l0 hb1.size; replace l1 := Nat.lt_of_lt_of_le l1 hb1.size; replace hx1 := hx1.to hb1; replace hx2 := hx2.to hb1; replace hx3 := hx3.to hb1; replace HW := Lib.hid (hstep HW hb1); clear hb1)
    | (go_at_call 96; refine (over0_any (na x) (nd x) A1 D1 _ (by exact hx1) (by exact h1) (by have := HSX.out; unfold sz at this; omega) (by have := HSX.out; unfold sz at this; omega) (nd_ne0 x)).mono ?_; rintro e w2 ⟨Z1, Z2, Z3, rfl, h2, hb2⟩; replace s0_0 := keepc hb2 s0_0 l0; replace s0_1 := keepc hb2 s0_1 l0; replace s0_2 := keepc hb2 s0_2 l0; replace s0_3 := keepc hb2 s0_3 l0; replace s0_4 := keepc hb2 s0_4 l0; replace r0 := keepc hb2 r0 l1; replace f0 := keepf hb2 f0 l1; replace r1 := keepc hb2 r1 l1; replace f1 := keepf hb2 f1 l1; replace r2 := keepc hb2 r2 l1; replace f2 := keepf hb2 f2 l1; replace r3 := keepc hb2 r3 l1; replace f3 := keepf hb2 f3 l1; replace r4 := keepc hb2 r4 l1; replace f4 := keepf hb2 f4 l1; replace l0 := Nat.lt_of_lt_of_le l0 hb2.size; replace l1 := Nat.lt_of_lt_of_le l1 hb2.size; replace hx1 := hx1.to hb2; replace hx2 := hx2.to hb2; replace hx3 := hx3.to hb2; replace h1 := h1.to hb2; replace HW := Lib.hid (hstep HW hb2); clear hb2))
  go_wp2_with fail
  exact bodyPost_ret (v := .agg #[.bool (sn (na (fr (na x) 0 (nd x)))), .slice Z1 (ln (ab (na (fr (na x) 0 (nd x))))) (ln (ab (na (fr (na x) 0 (nd x))))), .bool (sn (nb (fr (na x) 0 (nd x)))), .slice Z2 (ln (ab (nb (fr (na x) 0 (nd x))))) (ln (ab (nb (fr (na x) 0 (nd x))))), .slice Z3 (ln (un (fr (na x) 0 (nd x)))) (ln (un (fr (na x) 0 (nd x))))]) (by simp [results, Tryz.results40, go_sem, r0, r1, r2, r3, r4, f0, f1, f2, f3, f4]) rfl (retNum_fin HW h2 (by omega) r0)
end Go.Proofs.YtgpmlhpgdalheaaGreat

namespace Go.Proofs.YtgpmlhpgdalheaaGreat
open Go.RowKit Pl
set_option linter.unusedVariables false
set_option linter.unusedSimpArgs false
/-- An operation whose guard is met. -/
theorem wpOp_gg {P : Program} {ops : Array Oper} {Q : Exit → Act → World → Prop} {i : Nat} {o : Oper} {a : Act} {w : World} {K' : Act → World → Prop} (ho : ops[i]? = some o) (hg : Region.wanted o (yielded ops a.tmps) = true)
    (h : ∀ K : Act → World → Prop, (∀ a w, K' a w → K a w) → o.wp P a w K Q) : wpOp P ops Q i K' a w :=
  wpOp_step ho fun K hK => by rw [if_pos hg]; exact h K hK
/-- 'append', by what it is known to do. -/
theorem wp_append_run {P : Program} {o : Oper} {a : Act} {w w' : World} {K : Act → World → Prop} {Q : Exit → Act → World → Prop} {s x : Operand} {t : TypeId} {v1 v2 v' : Value}
    (ho : o.op = .call { callee := .builtin .append, args := #[s, x], argTypes := #[t, t] }) (hs : a.eval s = v1) (hx : a.eval x = v2) (hr : (Builtin.append_ #[t, t] o.type #[v1, v2]).run P w = .ok v' w') (h : K (a.put o.dst v') w') : o.wp P a w K Q := by
  unfold Oper.wp execOp
  simp only [ho, resolve, invoke, builtin, Sem.run_bind, Sem.run_pure, Result.andThen_ok, List.map_toArray, List.map_cons, List.map_nil, hs, hx, hr]
  exact h
-- what has come up, and what holds since
def On (l : Array Bool) (i : Nat) (p : Prop) : Prop := on l i = true → p
theorem On.get {l : Array Bool} {i : Nat} {p : Prop} (h : On l i p) (k : on l i = true) : p := h k
theorem On.keep {l : Array Bool} {i j : Nat} {p : Prop} (h : On l i p) (hn : i ≠ j) : On (l.setIfInBounds j true) i p := fun k => h (on_ne k hn)
theorem On.map {l : Array Bool} {i : Nat} {p q : Prop} (h : On l i p) (f : p → q) : On l i q := fun k => f (h k)
theorem On.new {l : Array Bool} {i : Nat} {p : Prop} (h : p) : On l i p := fun _ => h
/-- The slots' values, as a function; those that have come up hold what they should. -/
def upd (v : Nat → Value) (i : Nat) (x : Value) : Nat → Value := fun j => cond (Nat.beq j i) x (v j)
def OnAll (l : Array Bool) (v val : Nat → Value) : Prop := ∀ j, on l j = true → v j = val j
theorem OnAll.get {l : Array Bool} {v val : Nat → Value} (h : OnAll l v val) (j : Nat) (k : on l j = true) : v j = val j := h j k
theorem OnAll.same {l : Array Bool} {v val : Nat → Value} {i : Nat} {x : Value} (h : OnAll l v val) (hx : x = val i) : OnAll l (upd v i x) val := by
  intro j k
  unfold upd
  by_cases e : Nat.beq j i = true
  · rw [e]; rw [Nat.eq_of_beq_eq_true e]; exact hx
  · rw [Bool.eq_false_iff.2 e]; exact h j k
theorem OnAll.fix {l : Array Bool} {v val : Nat → Value} {i : Nat} {x : Value} (h : OnAll l v val) (_ : v i = x) (hx : x = val i) : OnAll l (upd v i x) val := h.same hx
theorem OnAll.new {l : Array Bool} {v val : Nat → Value} {i : Nat} {x : Value} (h : OnAll l v val) (hx : x = val i) : OnAll (l.setIfInBounds i true) (upd v i x) val := by
  intro j k
  unfold upd
  by_cases e : Nat.beq j i = true
  · rw [e]; rw [Nat.eq_of_beq_eq_true e]; exact hx
  · rw [Bool.eq_false_iff.2 e]; exact h j (on_ne k (fun e2 => e (by rw [e2]; exact Nat.beq_refl _)))
theorem OnAll.start {n : Nat} {v val : Nat → Value} : OnAll (Array.replicate n false) v val := by
  intro j k
  unfold on at k
  rw [Array.getD_eq_getD_getElem?] at k
  by_cases h : j < n
  · simp [h] at k
  · simp [Array.getElem?_eq_none (show (Array.replicate n false).size ≤ j by simp; omega)] at k
def Off (l : Array Bool) (i : Nat) (p : Prop) : Prop := ¬ on l i = true → p
theorem Off.get {l : Array Bool} {i : Nat} {p : Prop} (h : Off l i p) (k : ¬ on l i = true) : p := h k
theorem Off.keep {l : Array Bool} {i j : Nat} {p : Prop} (h : Off l i p) : Off (l.setIfInBounds j true) i p := fun k => h (fun k2 => k (on_mono k2))
theorem Off.done {l : Array Bool} {i : Nat} {p : Prop} (h : i < l.size) : Off (l.setIfInBounds i true) i p := fun k => absurd (by
  unfold on
  simp [Array.getD_eq_getD_getElem?, Array.getElem?_setIfInBounds, h]) k
theorem Off.new {l : Array Bool} {i : Nat} {p : Prop} (h : p) : Off l i p := fun _ => h
end Go.Proofs.YtgpmlhpgdalheaaGreat

namespace Go.Proofs.YtgpmlhpgdalheaaGreat
open Go.RowKit Pl
set_option linter.unusedVariables false
set_option linter.unusedSimpArgs false
theorem rd_up (k : Nat) : ∀ n : Nat, (rd n).length ≤ k → n < 10 ^ k := by
  induction k with
  | zero =>
    intro n h
    by_cases hn : n = 0
    · subst hn; decide
    · rw [rd_pos hn, List.length_cons] at h; omega
  | succ k ih =>
    intro n h
    by_cases hn : n = 0
    · subst hn; exact Nat.pow_pos (by omega)
    · rw [rd_pos hn, List.length_cons] at h
      have := ih (n / 10) (by omega)
      rw [Nat.pow_succ]; omega
theorem dec_up {n k : Nat} (h : (dec n).size ≤ k) : n < 10 ^ k := by
  unfold dec at h
  by_cases hn : n = 0
  · subst hn; exact Nat.pow_pos (by omega)
  · rw [if_neg hn, fold_size] at h
    refine rd_up k n ?_
    simp at h
    omega
theorem part_up {q : Cx} {k : Nat} (hk : k ≠ 0) (h : (partT q).size ≤ k) : (na q).natAbs < 10 ^ k ∧ nd q < 10 ^ k := by
  unfold partT sgT at h
  have e : (na q).natAbs = ab (na q) := rfl
  rw [e]
  have h2 : 1 < 10 ^ k := Nat.one_lt_pow hk (by decide)
  split at h
  · rename_i h1
    have h1' : nd q = 1 := by
      unfold un at h1
      split at h1
      · assumption
      · exact absurd h1 (Nat.pos_iff_ne_zero.1 (nd_pos q))
    refine ⟨dec_up ?_, by omega⟩
    split at h
    · rw [ByteArray.size_append] at h; omega
    · exact h
  · rename_i h1
    have h1' : un q = nd q := by
      unfold un at h1 ⊢
      split
      · rename_i h3; rw [if_pos h3] at h1; exact absurd rfl h1
      · rfl
    rw [← h1']
    refine ⟨dec_up ?_, dec_up ?_⟩ <;> (split at h <;> simp only [ByteArray.size_append] at h <;> omega)
theorem big_pow {k m : Nat} (hk : k * 8 ≤ m * 32) : 10 ^ k * 10 ^ k ≤ 4294967296 ^ m := by
  have h1 : 10 ^ k ≤ 16 ^ k := Nat.pow_le_pow_left (by omega) _
  have h2 : (16 : Nat) ^ k = 2 ^ (4 * k) := by rw [show (16 : Nat) = 2 ^ 4 from rfl, ← Nat.pow_mul]
  have h3 : (4294967296 : Nat) ^ m = 2 ^ (32 * m) := by rw [show (4294967296 : Nat) = 2 ^ 32 from rfl, ← Nat.pow_mul]
  rw [h3]
  rw [h2] at h1
  refine Nat.le_trans (Nat.mul_le_mul h1 h1) ?_
  rw [← Nat.pow_add]
  exact Nat.pow_le_pow_right (by omega) (by omega)
theorem ln_big {k n a b : Nat} (hk : k ≤ 3000) (ha : a < 10 ^ k) (hb : b < 10 ^ k) (h : n = a * b) : ln n ≤ 750 := by
  refine ln_le (Nat.lt_of_lt_of_le ?_ (big_pow (k := k) (m := 750) (by omega)))
  rw [h]
  exact Nat.mul_lt_mul'' ha hb
theorem small_of {x : Cx} {a b : Int} {d e k : Nat} (hk : k ≤ 3000) (h1 : (a : Rat) = x.re * (d : Rat)) (h2 : (b : Rat) = x.im * (e : Rat)) (hd : 0 < d) (he : 0 < e) (a1 : a.natAbs < 10 ^ k) (b1 : b.natAbs < 10 ^ k) (d1 : d < 10 ^ k) (e1 : e < 10 ^ k) : sz 750 x := by
  have h : fr (a * e) (b * d) (d * e) = x := by
    refine fr_eq (Nat.mul_pos hd he) ?_ ?_
    · rw [Rat.intCast_mul, h1, Rat.natCast_mul]; simp only [Rat.intCast_natCast]; grind
    · rw [Rat.intCast_mul, h2, Rat.natCast_mul]; simp only [Rat.intCast_natCast]; grind
  rw [← h]
  refine fr_sz (Nat.pos_iff_ne_zero.1 (Nat.mul_pos hd he)) (ln_big hk a1 e1 ?_) (ln_big hk b1 d1 ?_) (ln_big hk d1 e1 rfl)
  · show (a * (e : Int)).natAbs = _; rw [Int.natAbs_mul]; rfl
  · show (b * (d : Int)).natAbs = _; rw [Int.natAbs_mul]; rfl
theorem re_part (x : Cx) : (na x.reOf : Rat) = x.re * (nd x.reOf : Rat) := na_eq x.reOf
theorem im_part (x : Cx) : (na x.imOf : Rat) = x.im * (nd x.imOf : Rat) := na_eq x.imOf
theorem zero_part {n : Int} {r : Rat} {d : Nat} (hd : 0 < d) (h : (n : Rat) = r * (d : Rat)) (h0 : n = 0) : ((0 : Int) : Rat) = r * ((1 : Nat) : Rat) := by
  subst h0
  have h1 := rat_ne hd
  have e : ((0 : Int) : Rat) = 0 := rfl
  have e1 : ((1 : Nat) : Rat) = 1 := rfl
  rw [e] at h ⊢
  rw [e1]
  have h2 : r * (d : Rat) = 0 := h.symm
  rcases Rat.mul_eq_zero.1 h2 with h3 | h3
  · rw [h3, Rat.zero_mul]
  · exact absurd h3 h1
theorem text_le {x : Cx} {k : Nat} (k0 : k ≠ 0) (hk : k ≤ 3000) (h : (textT x).size ≤ k) : sz 750 x := by
  have z0 : ((0 : Int)).natAbs < 10 ^ k := Nat.pow_pos (by omega)
  have z1 : (1 : Nat) < 10 ^ k := Nat.one_lt_pow k0 (by omega)
  have hi : ∀ {y : Cx}, (imT y).size ≤ k → (na y.imOf).natAbs < 10 ^ k ∧ nd y.imOf < 10 ^ k := by
    intro y hy
    unfold imT at hy
    rw [im_fr] at hy
    exact part_up k0 (by rw [ByteArray.size_append] at hy; omega)
  unfold textT at h
  rw [re_fr] at h
  by_cases c1 : nb x = 0
  · rw [if_pos c1] at h
    obtain ⟨p1, p2⟩ := part_up k0 h
    exact small_of hk (re_part x) (zero_part (nd_pos x) (nb_eq x) c1) (nd_pos _) (by omega) p1 z0 p2 z1
  · rw [if_neg c1] at h
    by_cases c2 : na x = 0
    · rw [if_pos c2] at h
      obtain ⟨p1, p2⟩ := hi h
      exact small_of hk (zero_part (nd_pos x) (na_eq x) c2) (im_part x) (by omega) (nd_pos _) z0 p1 z1 p2
    · rw [if_neg c2] at h
      rw [ByteArray.size_append] at h
      obtain ⟨p1, p2⟩ := part_up (q := x.reOf) k0 (by omega)
      have h3 : (imT x).size ≤ k := by
        split at h
        · omega
        · rw [ByteArray.size_append] at h; omega
      obtain ⟨p3, p4⟩ := hi h3
      exact small_of hk (re_part x) (im_part x) (nd_pos _) (nd_pos _) p1 p3 p2 p4
/-- A number whose text has at most 3000 bytes is small. -/
theorem text_small {x : Cx} (h : (textT x).size ≤ 3000) : sz 750 x := text_le (by omega) (Nat.le_refl _) h
end Go.Proofs.YtgpmlhpgdalheaaGreat
