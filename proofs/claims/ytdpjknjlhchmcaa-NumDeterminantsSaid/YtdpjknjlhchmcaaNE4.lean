/- Part 4 of the proof. -/
import Derived.Test.YtdpjknjlhchmcaaNE1
import Derived.ProofKit
import Derived.OpenShut
import Derived.ReadAgain
import Derived.Below
import Derived.Deep.Slices
import Derived.Lib.SmallJoins
import Derived.Deep.SlicePairs
import Derived.Test.YtdpjknjlhchmcaaNE3
import Derived.Deep.LoopGhost
namespace Go.Proofs.Ytdpjknjlhchmcaa
open Go.ChangeShapes Go.WideShapes Go.ChangeAt Go.RowKit Go.Joins Go.Deep Pl
set_option linter.unusedVariables false
section
variable {H : Type} {enc : TypeId × Value → H} {P : Program}
theorem trodAll_carry {w w' : World} {base : Nat} {spare : Nat → Bool} {held : Bool} : ∀ {ts : List TypeId} {vs : List Value} {ds : List (DataW H)} {ps : List MemPlace}, DataW.TrodAll enc P w base spare held ts vs ds ps → (∀ p ∈ ps, w.sameAt w' p) → DataW.TrodAll enc P w' base spare held ts vs ds ps
  | [], [], [], _, h, _ => h
  | _ :: _, _ :: _, _ :: _, _, ⟨p, q, ⟨n, h1⟩, h2, e⟩, hs => ⟨p, q, ⟨n, DataW.trod_carry n _ _ _ h1 (fun x hx => hs x (by rw [e]; exact List.mem_append_left _ hx))⟩, trodAll_carry h2 (fun x hx => hs x (by rw [e]; exact List.mem_append_right _ hx)), e⟩
/-- Arguments that are only read: what is asked behind the call. -/
theorem read_post {f : Func} {s : ChangeSpec} {apart : Bool} {W W' : World} {args : Array Value} {v : Value} {ds : List (DataW H)} {before : List MemPlace}
    (K : Kids P (· < P.types.size)) (hz : ∀ t e, t < P.types.size → P.underlying t = some (.slice e) → 0 < P.cellsOf e) (hpt : ∀ t ∈ f.params.toList, t < P.types.size)
    (hW : DataW.Whole enc P f.params.toList s.vars apart W args.toList ds [] before) (hA : DataW.TrodAll enc P W 0 (fun _ => true) true f.params.toList args.toList ds before)
    (hres : ∀ (b : Nat) (sp : Nat → Bool) (hd : Bool), DataW.TrodAll enc P W' b sp hd f.resultTypes.toList (v.resultList f.resultTypes.size) (s.fn H (ds ++ [])).results [])
    (hargs : (s.fn H (ds ++ [])).args = ds) (hvars : ∀ sp : Nat → Bool, DataW.TrodVars enc P W' sp s.vars (s.fn H (ds ++ [])).vars [])
    (hb : Below W.heap.size W W') : s.post enc P f apart true false false W args v W' := by
  have hlt := hA.lt
  have hsame : ∀ p ∈ before, W.sameAt W' p := by
    intro p hp
    have hl := hlt p hp
    cases p with
    | cell b off => exact hb.cell (p := ⟨b, off, none⟩) hl
    | map b => exact hb.block b hl
  refine ⟨ds, [], before, [], before, [], hW, hres _ _ _, ?_, hvars _, hb.frame _, fun h => by cases h⟩
  rw [hargs]
  exact trodAll_carry (hA.respare K hz hpt (fun p hp => by simpa using hlt p hp)) hsame
/-- What a slice of structs of three int64s holds. -/
def Triples (w : World) (A : Option Addr) (n : Nat) (X Y Z : Nat → Int) : Prop := ∀ i, i < n → ∃ b off, A = some ⟨b, off, none⟩ ∧ b < w.heap.size ∧
  w.cell? ⟨b, off + i * 3, none⟩ = some (.int .i64 (X i)) ∧ w.cell? ⟨b, off + i * 3 + 1, none⟩ = some (.int .i64 (Y i)) ∧ w.cell? ⟨b, off + i * 3 + 2, none⟩ = some (.int .i64 (Z i)) ∧
  (-9223372036854775808 ≤ X i ∧ X i ≤ 9223372036854775807) ∧ (-9223372036854775808 ≤ Y i ∧ Y i ≤ 9223372036854775807) ∧ (-9223372036854775808 ≤ Z i ∧ Z i ≤ 9223372036854775807)
theorem Triples.to {w w' : World} {A : Option Addr} {n : Nat} {X Y Z : Nat → Int} (h : Triples w A n X Y Z) (hb : Below w.heap.size w w') : Triples w' A n X Y Z := by
  intro i hi
  obtain ⟨b, off, e, hl, c0, c1, c2, r⟩ := h i hi
  exact ⟨b, off, e, Nat.lt_of_lt_of_le hl hb.size, (hb.cell (p := ⟨b, _, none⟩) hl).trans c0, (hb.cell (p := ⟨b, _, none⟩) hl).trans c1, (hb.cell (p := ⟨b, _, none⟩) hl).trans c2, r⟩
theorem add_none {a : Addr} (k : Nat) (h : a.spot = none) : a.add k = ⟨a.block, a.off + k, none⟩ := by
  unfold Addr.add
  split
  · rename_i h0; subst h0; cases a; simp_all
  · rfl
/-- A slice of structs of three int64s, opened. -/
theorem open_triples {W : World} {t e q : TypeId} {f0 f1 f2 : Field} {v : Value} {d : DataW H} {ps : List MemPlace} (ht : P.underlying t = some (.slice e)) (he : P.underlying e = some (.struct #[f0, f1, f2])) (ce : P.cellsOf e = 3)
    (o0 : f0.offset = 0 ∧ f0.type = q) (o1 : f1.offset = 1 ∧ f1.type = q) (o2 : f2.offset = 2 ∧ f2.type = q) (hq : P.underlying q = some (.int .i64)) (cq : P.cellsOf q = 1)
    (hv : v.cells = #[v]) (h : DataW.Trod enc P W 0 (fun _ => true) true t v d ps) :
    ∃ (A : Option Addr) (len cap : Nat) (X Y Z : Nat → Int), v = .slice A len cap ∧ len ≤ cap ∧ cap ≤ maxLen ∧ Triples W A len X Y Z := by
  obtain ⟨fuel, hf⟩ := h
  rw [hv] at hf
  rcases open_slice ht hf with ⟨hcs, _⟩ | ⟨a, len, cap, m, n, D, Pl, hcs, hb, hl, hm, hmm, hx, hel⟩
  · simp only [List.cons.injEq, and_true] at hcs
    exact ⟨none, 0, 0, fun _ => 0, fun _ => 0, fun _ => 0, hcs, Nat.le_refl _, by unfold maxLen; omega, fun i hi => absurd hi (by omega)⟩
  · simp only [List.cons.injEq, and_true] at hcs
    have hm' : m = cap := hmm
    have each : ∀ i, i < len → ∃ z : Int × Int × Int, a.spot = none ∧ W.cell? ⟨a.block, a.off + i * 3, none⟩ = some (.int .i64 z.1) ∧ W.cell? ⟨a.block, a.off + i * 3 + 1, none⟩ = some (.int .i64 z.2.1) ∧ W.cell? ⟨a.block, a.off + i * 3 + 2, none⟩ = some (.int .i64 z.2.2) ∧
        (Lit.int .i64 z.1).wf = true ∧ (Lit.int .i64 z.2.1).wf = true ∧ (Lit.int .i64 z.2.2).wf = true := by
      intro i hi
      obtain ⟨c0', h01, h02⟩ := hel 0 (by omega)
      obtain ⟨_, l0, hc0⟩ := World.cells?_some h01
      have hsp : a.spot = none := by
        rw [ce] at l0 hc0
        have e0 := hc0 0 (by omega)
        have ez : ((a.add (0 * 3)).add 0) = a := by simp [Addr.add]
        rw [ez] at e0
        cases hs : a.spot with
        | none => rfl
        | some x =>
          have hlen : 0 < c0'.length := by omega
          rw [List.getElem?_eq_getElem hlen] at e0
          simp only [World.cell?] at e0
          split at e0
          · simp [hs] at e0
          · cases e0
      obtain ⟨cs', h1, h2⟩ := hel i (by omega)
      rw [ce] at h1
      obtain ⟨_, hlen, hcell⟩ := World.cells?_some h1
      obtain ⟨xs, k, hk, hxy, _, hxl, hff⟩ := DataW.trod_struct he h2
      match xs, hxl, cs', hlen with
      | [y0, y1, y2], _, [v0, v1, v2], _ =>
        have g0 := hff 0 f0 rfl
        have g1 := hff 1 f1 rfl
        have g2 := hff 2 f2 rfl
        simp [o0.1, o0.2, o1.1, o1.2, o2.1, o2.2, cq] at g0 g1 g2
        obtain ⟨z0, e0, _, w0⟩ := DataW.trod_int hq g0
        obtain ⟨z1, e1, _, w1⟩ := DataW.trod_int hq g1
        obtain ⟨z2, e2, _, w2⟩ := DataW.trod_int hq g2
        have k0 := hcell 0 (by omega)
        have k1 := hcell 1 (by omega)
        have k2 := hcell 2 (by omega)
        rw [add_add, add_none _ hsp] at k0 k1 k2
        simp at e0 e1 e2
        subst e0 e1 e2
        exact ⟨(z0, z1, z2), hsp, by simpa using k0, by simpa [Nat.add_assoc] using k1, by simpa [Nat.add_assoc] using k2, w0, w1, w2⟩
    obtain ⟨z, hz⟩ := choose_lt each
    refine ⟨some a, len, cap, fun i => (z i).1, fun i => (z i).2.1, fun i => (z i).2.2, hcs, hl, hm, fun i hi => ?_⟩
    obtain ⟨hsp, c0, c1, c2, w0, w1, w2⟩ := hz i hi
    have hlt : a.block < W.heap.size := by
      obtain ⟨c0', h01, _⟩ := hel 0 (by omega)
      have := World.cells?_block h01 (by rw [ce]; omega)
      simpa [Addr.add] using this
    exact ⟨a.block, a.off, by cases a; simp_all, hlt, c0, c1, c2, bounds_i64 w0, bounds_i64 w1, bounds_i64 w2⟩
end
end Go.Proofs.Ytdpjknjlhchmcaa

namespace Go.Proofs.Ytdpjknjlhchmcaa
open Go.RowKit Pl
set_option linter.unusedVariables false
set_option linter.unusedSimpArgs false
/-- A slice of slices: row i is the slice (R i, N i, K i). -/
def Grid (w : World) (A : Option Addr) (n : Nat) (R : Nat → Option Addr) (N K : Nat → Nat) : Prop := ∀ i, i < n → ∃ b off, A = some ⟨b, off, none⟩ ∧ b < w.heap.size ∧ w.cell? ⟨b, off + i, none⟩ = some (.slice (R i) (N i) (K i))
theorem Grid.to {w w' : World} {A : Option Addr} {n : Nat} {R : Nat → Option Addr} {N K : Nat → Nat} (h : Grid w A n R N K) (hb : Below w.heap.size w w') : Grid w' A n R N K := by
  intro i hi
  obtain ⟨b, off, e, hl, c⟩ := h i hi
  exact ⟨b, off, e, Nat.lt_of_lt_of_le hl hb.size, (hb.cell (p := ⟨b, _, none⟩) hl).trans c⟩
end Go.Proofs.Ytdpjknjlhchmcaa

namespace Go.Proofs.Ytdpjknjlhchmcaa
open Go.RowKit Pl
set_option linter.unusedVariables false
set_option linter.unusedSimpArgs false
/-- A number of the program lies at the offset o of the block g. -/
def PE (w : World) (g o : Nat) (q : Cx) : Prop := ∃ A1 A2 A3, (w.cell? ⟨g, o, none⟩ = some (.bool (sn (na q))) ∧ w.cell? ⟨g, o + 1, none⟩ = some (.slice A1 (ln (ab (na q))) (ln (ab (na q)))) ∧ w.cell? ⟨g, o + 2, none⟩ = some (.bool (sn (nb q))) ∧ w.cell? ⟨g, o + 3, none⟩ = some (.slice A2 (ln (ab (nb q))) (ln (ab (nb q)))) ∧ w.cell? ⟨g, o + 4, none⟩ = some (.slice A3 (ln (un q)) (ln (un q)))) ∧ Num3 w A1 A2 A3 q
theorem PE.lt {w : World} {g o : Nat} {q : Cx} (h : PE w g o q) : g < w.heap.size := by
  obtain ⟨_, _, _, ⟨c0, _⟩, _⟩ := h
  exact World.block_lt_of_cell? w ⟨g, o, none⟩ c0
theorem PE.to {w w' : World} {g o : Nat} {q : Cx} (h : PE w g o q) (hb : Below w.heap.size w w') : PE w' g o q := by
  have l := h.lt
  obtain ⟨A1, A2, A3, ⟨c0, c1, c2, c3, c4⟩, n⟩ := h
  exact ⟨A1, A2, A3, ⟨keepc hb c0 l, keepc hb c1 l, keepc hb c2 l, keepc hb c3 l, keepc hb c4 l⟩, n.to hb⟩
/-- A number is stored at the offset o of the block p. -/
def set5o (w : World) (p o : Nat) (q : Cx) (A1 A2 A3 : Option Addr) : World :=
  ((((w.setCell ⟨p, o, none⟩ (.bool (sn (na q)))).setCell ⟨p, o + 1, none⟩ (.slice A1 (ln (ab (na q))) (ln (ab (na q))))).setCell ⟨p, o + 2, none⟩ (.bool (sn (nb q)))).setCell ⟨p, o + 3, none⟩ (.slice A2 (ln (ab (nb q))) (ln (ab (nb q))))).setCell ⟨p, o + 4, none⟩ (.slice A3 (ln (un q)) (ln (un q)))
theorem set5o_size (w : World) (p o : Nat) (q : Cx) (A1 A2 A3 : Option Addr) : (set5o w p o q A1 A2 A3).heap.size = w.heap.size := by simp [set5o, World.setCell]
theorem set5o_cell {w : World} {p o b i : Nat} {q : Cx} {A1 A2 A3 : Option Addr} {v : Value} (h : w.cell? ⟨b, i, none⟩ = some v) (h1 : b ≠ p ∨ i < o ∨ o + 5 ≤ i) : (set5o w p o q A1 A2 A3).cell? ⟨b, i, none⟩ = some v := keepo (keepo (keepo (keepo (keepo h (by omega)) (by omega)) (by omega)) (by omega)) (by omega)
theorem set5o_below {w W : World} {B p o : Nat} {q : Cx} {A1 A2 A3 : Option Addr} (h : Below B w W) (hp : B ≤ p) : Below B w (set5o W p o q A1 A2 A3) :=
  ((((h.setCell (by exact hp) _).setCell (by exact hp) _).setCell (by exact hp) _).setCell (by exact hp) _).setCell (by exact hp) _
/-- A block whose first cell is no integer holds no number's words. -/
theorem nat_set {w : World} {p o n : Nat} {A : Option Addr} {c : Bool} {v : Value} (h : Nat32 w A n) (u : w.cell? ⟨p, 0, none⟩ = some (.bool c)) : Nat32 (w.setCell ⟨p, o, none⟩ v) A n :=
  h.setBox u (by intro k m e; cases e)
theorem bool_set {w : World} {p o : Nat} {c d : Bool} {v : Value} (u : w.cell? ⟨p, 0, none⟩ = some (.bool c)) (h : o ≠ 0 ∨ v = .bool d) : ∃ e, (w.setCell ⟨p, o, none⟩ v).cell? ⟨p, 0, none⟩ = some (.bool e) := by
  by_cases ho : o = 0
  · subst ho
    rcases h with h | h
    · exact absurd rfl h
    · subst h; exact ⟨d, cell_self u⟩
  · exact ⟨c, keepo u (.inr (by omega))⟩
theorem set5o_nat {w : World} {p o n : Nat} {q : Cx} {A1 A2 A3 A : Option Addr} {c : Bool} (h : Nat32 w A n) (u : w.cell? ⟨p, 0, none⟩ = some (.bool c)) : Nat32 (set5o w p o q A1 A2 A3) A n := by
  obtain ⟨e1, a1⟩ := bool_set (o := o) (v := .bool (sn (na q))) u (.inr rfl)
  obtain ⟨e2, a2⟩ := bool_set (d := false) (o := o + 1) (v := .slice A1 (ln (ab (na q))) (ln (ab (na q)))) a1 (.inl (by omega))
  obtain ⟨e3, a3⟩ := bool_set (d := false) (o := o + 2) (v := .bool (sn (Pl.nb q))) a2 (.inl (by omega))
  obtain ⟨e4, a4⟩ := bool_set (d := false) (o := o + 3) (v := .slice A2 (ln (ab (Pl.nb q))) (ln (ab (Pl.nb q)))) a3 (.inl (by omega))
  exact nat_set (nat_set (nat_set (nat_set (nat_set h u) a1) a2) a3) a4
theorem set5o_bool {w : World} {p o : Nat} {q : Cx} {A1 A2 A3 : Option Addr} {c : Bool} (u : w.cell? ⟨p, 0, none⟩ = some (.bool c)) : ∃ e, (set5o w p o q A1 A2 A3).cell? ⟨p, 0, none⟩ = some (.bool e) := by
  obtain ⟨e1, a1⟩ := bool_set (o := o) (v := .bool (sn (na q))) u (.inr rfl)
  obtain ⟨e2, a2⟩ := bool_set (d := false) (o := o + 1) (v := .slice A1 (ln (ab (na q))) (ln (ab (na q)))) a1 (.inl (by omega))
  obtain ⟨e3, a3⟩ := bool_set (d := false) (o := o + 2) (v := .bool (sn (Pl.nb q))) a2 (.inl (by omega))
  obtain ⟨e4, a4⟩ := bool_set (d := false) (o := o + 3) (v := .slice A2 (ln (ab (Pl.nb q))) (ln (ab (Pl.nb q)))) a3 (.inl (by omega))
  exact bool_set (d := false) (o := o + 4) (v := .slice A3 (ln (un q)) (ln (un q))) a4 (.inl (by omega))
theorem set5o_num3 {w : World} {p o : Nat} {q r : Cx} {A1 A2 A3 B1 B2 B3 : Option Addr} {c : Bool} (h : Num3 w B1 B2 B3 r) (u : w.cell? ⟨p, 0, none⟩ = some (.bool c)) : Num3 (set5o w p o q A1 A2 A3) B1 B2 B3 r := ⟨set5o_nat h.1 u, set5o_nat h.2.1 u, set5o_nat h.2.2 u⟩
theorem PE.set5o {w : World} {g p o i : Nat} {q r : Cx} {A1 A2 A3 : Option Addr} {c : Bool} (h : PE w g i r) (hn : g ≠ p ∨ i + 5 ≤ o ∨ o + 5 ≤ i) (k : w.cell? ⟨p, 0, none⟩ = some (.bool c)) : PE (set5o w p o q A1 A2 A3) g i r := by
  obtain ⟨B1, B2, B3, ⟨c0, c1, c2, c3, c4⟩, n⟩ := h
  exact ⟨B1, B2, B3, ⟨set5o_cell c0 (by omega), set5o_cell c1 (by omega), set5o_cell c2 (by omega), set5o_cell c3 (by omega), set5o_cell c4 (by omega)⟩, set5o_num3 n k⟩
theorem pe_set {w : World} {p o m : Nat} {T : TypeId} {F : Nat → Value} {q : Cx} {A1 A2 A3 : Option Addr} {c : Bool} (hr : w.rowIs p T m F) (ho : o + 5 ≤ m) (k : w.cell? ⟨p, 0, none⟩ = some (.bool c)) (n : Num3 w A1 A2 A3 q) : PE (set5o w p o q A1 A2 A3) p o q := by
  refine ⟨A1, A2, A3, ?_, set5o_num3 n k⟩
  have u0 := hr.cell (i := o) (by omega)
  have u1 := hr.cell (i := o + 1) (by omega)
  have u2 := hr.cell (i := o + 2) (by omega)
  have u3 := hr.cell (i := o + 3) (by omega)
  have u4 := hr.cell (i := o + 4) (by omega)
  unfold Proofs.Ytdpjknjlhchmcaa.set5o
  have o0 := cell_self (u := .bool (sn (na q))) u0
  refine ⟨?_, ?_, ?_, ?_, ?_⟩
  · exact keepo (keepo (keepo (keepo o0 (by omega)) (by omega)) (by omega)) (by omega)
  · exact keepo (keepo (keepo (cell_self (keepo u1 (by omega))) (by omega)) (by omega)) (by omega)
  · exact keepo (keepo (cell_self (keepo (keepo u2 (by omega)) (by omega))) (by omega)) (by omega)
  · exact keepo (cell_self (keepo (keepo (keepo u3 (by omega)) (by omega)) (by omega))) (by omega)
  · exact cell_self (keepo (keepo (keepo (keepo u4 (by omega)) (by omega)) (by omega)) (by omega))
/-- The block holds a row of m cells, whatever they are; the first one is a bool. -/
def RowB (w : World) (g : Nat) (T : TypeId) (m : Nat) : Prop := (∃ F, w.rowIs g T m F) ∧ ∃ c, w.cell? ⟨g, 0, none⟩ = some (.bool c)
theorem RowB.lt {w : World} {g m : Nat} {T : TypeId} (h : RowB w g T m) : g < w.heap.size := by
  obtain ⟨⟨F, h⟩, _⟩ := h; exact h.lt
theorem RowB.to {w w' : World} {g m : Nat} {T : TypeId} (h : RowB w g T m) (hb : Below w.heap.size w w') : RowB w' g T m := by
  have l := h.lt
  obtain ⟨⟨F, h⟩, c, k⟩ := h
  exact ⟨⟨F, h.of_block (hb.block g l)⟩, c, keepc hb k l⟩
theorem RowB.set5o {w : World} {g p o m : Nat} {T : TypeId} {q : Cx} {A1 A2 A3 : Option Addr} (h : RowB w g T m) : RowB (set5o w p o q A1 A2 A3) g T m := by
  obtain ⟨⟨F, h⟩, c, k⟩ := h
  by_cases e : g = p
  · subst e
    refine ⟨⟨_, ((((h.set _ _).set _ _).set _ _).set _ _).set _ _⟩, set5o_bool k⟩
  · refine ⟨⟨F, ((((h.setOther (a := ⟨p, o, none⟩) e _).setOther (a := ⟨p, o + 1, none⟩) e _).setOther (a := ⟨p, o + 2, none⟩) e _).setOther (a := ⟨p, o + 3, none⟩) e _).setOther (a := ⟨p, o + 4, none⟩) e _⟩, c, set5o_cell k (.inl e)⟩
end Go.Proofs.Ytdpjknjlhchmcaa

namespace Go.Proofs.Ytdpjknjlhchmcaa
open Go.RowKit Pl
set_option linter.unusedVariables false
set_option linter.unusedSimpArgs false
/-- The five cells of a new number. -/
def Z5 : Array Value := #[.bool false, .slice none 0 0, .bool false, .slice none 0 0, .slice none 0 0]
/-- 'make' of n numbers. -/
def mkN (w : World) (n : Nat) (T : TypeId) : World := w.alloc (.cells (madeCells Z5 (n * 5)) T)
theorem mkN_size (w : World) (n : Nat) (T : TypeId) : (mkN w n T).heap.size = w.heap.size + 1 := by simp [mkN]
theorem mkN_below (w : World) (n : Nat) (T : TypeId) : Below w.heap.size w (mkN w n T) := (Below.refl _ _).alloc (Nat.le_refl _) _
theorem mkN_row (w : World) (n : Nat) (T : TypeId) (hn : 0 < n) : RowB (mkN w n T) w.heap.size T (n * 5) := by
  have h := World.rowIs_alloc w (madeCells Z5 (n * 5)) T (fun j => Z5[j % 5]!) (fun i hi => by rw [size_madeCells] at hi; simp [madeCells, hi]; rfl)
  rw [size_madeCells] at h
  refine ⟨⟨_, h⟩, false, ?_⟩
  exact h.cell (i := 0) (by omega)
theorem mk_nums (n : Nat) (hn : n ≤ 100000) (w : World) : (Instr.makeSlice 42 (.int .i64 (n : Int)) (.int .i64 (n : Int))).run Try.prog w = .ok (.slice (some ⟨w.heap.size, 0, none⟩) n n) (mkN w n 34) := by
  obtain ⟨i, hi, hz, hs, hb⟩ := info_parts Try.info_num
  have := run_make (P := Try.prog) w 42 _ i _ Try.und_nums hi hz .i64 .i64 n n (by omega) (by omega) (by rw [hb]; omega) (by omega)
  simpa [hs, mkN, Z5, Value.cells] using this
end Go.Proofs.Ytdpjknjlhchmcaa

namespace Go.Proofs.Ytdpjknjlhchmcaa
open Go.RowKit Pl
set_option linter.unusedVariables false
set_option linter.unusedSimpArgs false
/-- An operation whose guard is met. -/
theorem wpOp_gg {P : Program} {ops : Array Oper} {Q : Exit → Act → World → Prop} {i : Nat} {o : Oper} {a : Act} {w : World} {K' : Act → World → Prop} (ho : ops[i]? = some o) (hg : Region.wanted o (yielded ops a.tmps) = true)
    (h : ∀ K : Act → World → Prop, (∀ a w, K' a w → K a w) → o.wp P a w K Q) : wpOp P ops Q i K' a w :=
  wpOp_step ho fun K hK => by rw [if_pos hg]; exact h K hK
/-- An operation whose guard is not met. -/
theorem wpOp_sk {P : Program} {ops : Array Oper} {Q : Exit → Act → World → Prop} {i : Nat} {o : Oper} {a : Act} {w : World} {K' : Act → World → Prop} (ho : ops[i]? = some o) (hg : Region.wanted o (yielded ops a.tmps) = false)
    (h : ∀ K : Act → World → Prop, (∀ a w, K' a w → K a w) → K (a.put o.dst undef) w) : wpOp P ops Q i K' a w :=
  wpOp_step ho fun K hK => by rw [if_neg (by rw [hg]; decide)]; exact h K hK
/-- 'append', by what it is known to do. -/
theorem wp_append_run {P : Program} {o : Oper} {a : Act} {w w' : World} {K : Act → World → Prop} {Q : Exit → Act → World → Prop} {s x : Operand} {t : TypeId} {v1 v2 v' : Value}
    (ho : o.op = .call { callee := .builtin .append, args := #[s, x], argTypes := #[t, t] }) (hs : a.eval s = v1) (hx : a.eval x = v2) (hr : (Builtin.append_ #[t, t] o.type #[v1, v2]).run P w = .ok v' w') (h : K (a.put o.dst v') w') : o.wp P a w K Q := by
  unfold Oper.wp execOp
  simp only [ho, resolve, invoke, builtin, Sem.run_bind, Sem.run_pure, Result.andThen_ok, List.map_toArray, List.map_cons, List.map_nil, hs, hx, hr]
  exact h
-- what has come up, and what holds since
def On (l : Array Bool) (i : Nat) (p : Prop) : Prop := on l i = true → p
theorem On.get {l : Array Bool} {i : Nat} {p : Prop} (h : On l i p) (k : on l i = true) : p := h k
theorem On.keep {l : Array Bool} {i j : Nat} {p : Prop} (h : On l i p) (hn : i ≠ j) : On (l.setIfInBounds j true) i p := fun k => h (on_ne k hn)
theorem On.map {l : Array Bool} {i : Nat} {p q : Prop} (h : On l i p) (f : p → q) : On l i q := fun k => f (h k)
theorem On.new {l : Array Bool} {i : Nat} {p : Prop} (h : p) : On l i p := fun _ => h
/-- The slots' values, as a function; those that have come up hold what they should. -/
def upd (v : Nat → Value) (i : Nat) (x : Value) : Nat → Value := fun j => cond (Nat.beq j i) x (v j)
def OnAll (l : Array Bool) (v val : Nat → Value) : Prop := ∀ j, on l j = true → v j = val j
theorem OnAll.get {l : Array Bool} {v val : Nat → Value} (h : OnAll l v val) (j : Nat) (k : on l j = true) : v j = val j := h j k
theorem OnAll.same {l : Array Bool} {v val : Nat → Value} {i : Nat} {x : Value} (h : OnAll l v val) (hx : x = val i) : OnAll l (upd v i x) val := by
  intro j k
  unfold upd
  by_cases e : Nat.beq j i = true
  · rw [e]; rw [Nat.eq_of_beq_eq_true e]; exact hx
  · rw [Bool.eq_false_iff.2 e]; exact h j k
theorem OnAll.fix {l : Array Bool} {v val : Nat → Value} {i : Nat} {x : Value} (h : OnAll l v val) (_ : v i = x) (hx : x = val i) : OnAll l (upd v i x) val := h.same hx
theorem OnAll.new {l : Array Bool} {v val : Nat → Value} {i : Nat} {x : Value} (h : OnAll l v val) (hx : x = val i) : OnAll (l.setIfInBounds i true) (upd v i x) val := by
  intro j k
  unfold upd
  by_cases e : Nat.beq j i = true
  · rw [e]; rw [Nat.eq_of_beq_eq_true e]; exact hx
  · rw [Bool.eq_false_iff.2 e]; exact h j (on_ne k (fun e2 => e (by rw [e2]; exact Nat.beq_refl _)))
theorem OnAll.start {n : Nat} {v val : Nat → Value} : OnAll (Array.replicate n false) v val := by
  intro j k
  unfold on at k
  rw [Array.getD_eq_getD_getElem?] at k
  by_cases h : j < n
  · simp [h] at k
  · simp [Array.getElem?_eq_none (show (Array.replicate n false).size ≤ j by simp; omega)] at k
def Off (l : Array Bool) (i : Nat) (p : Prop) : Prop := ¬ on l i = true → p
theorem Off.get {l : Array Bool} {i : Nat} {p : Prop} (h : Off l i p) (k : ¬ on l i = true) : p := h k
theorem Off.keep {l : Array Bool} {i j : Nat} {p : Prop} (h : Off l i p) : Off (l.setIfInBounds j true) i p := fun k => h (fun k2 => k (on_mono k2))
theorem Off.done {l : Array Bool} {i : Nat} {p : Prop} (h : i < l.size) : Off (l.setIfInBounds i true) i p := fun k => absurd (by
  unfold on
  simp [Array.getD_eq_getD_getElem?, Array.getElem?_setIfInBounds, h]) k
theorem Off.new {l : Array Bool} {i : Nat} {p : Prop} (h : p) : Off l i p := fun _ => h
/-- As OnAll, for the listed operations alone. -/
def OnFix (l : Array Bool) (v val : Nat → Value) (fx : List Nat) : Prop := ∀ j, j ∈ fx → on l j = true → v j = val j
theorem OnFix.get {l : Array Bool} {v val : Nat → Value} {fx : List Nat} (h : OnFix l v val fx) (j : Nat) (m : j ∈ fx) (k : on l j = true) : v j = val j := h j m k
theorem OnFix.fix {l : Array Bool} {v val : Nat → Value} {fx : List Nat} {i : Nat} {x : Value} (h : OnFix l v val fx) (hx : x = val i) : OnFix l (upd v i x) val fx := by
  intro j m k
  unfold upd
  by_cases e : Nat.beq j i = true
  · rw [e]; rw [Nat.eq_of_beq_eq_true e]; exact hx
  · rw [Bool.eq_false_iff.2 e]; exact h j m k
theorem OnFix.new {l : Array Bool} {v val : Nat → Value} {fx : List Nat} {i : Nat} {x : Value} (h : OnFix l v val fx) (hx : x = val i) : OnFix (l.setIfInBounds i true) (upd v i x) val fx := by
  intro j m k
  unfold upd
  by_cases e : Nat.beq j i = true
  · rw [e]; rw [Nat.eq_of_beq_eq_true e]; exact hx
  · rw [Bool.eq_false_iff.2 e]; exact h j m (on_ne k (fun e2 => e (by rw [e2]; exact Nat.beq_refl _)))
theorem OnFix.other {l : Array Bool} {v val : Nat → Value} {fx : List Nat} {i : Nat} (h : OnFix l v val fx) (hi : i ∉ fx) : OnFix (l.setIfInBounds i true) v val fx :=
  fun j m k => h j m (on_ne k (fun e => hi (e ▸ m)))
theorem OnFix.start {n : Nat} {v val : Nat → Value} {fx : List Nat} : OnFix (Array.replicate n false) v val fx := fun j _ k => OnAll.start (n := n) (v := v) (val := val) j k
theorem On.mono {l : Array Bool} {i j b : Nat} (h : On l j (on l b = true)) (hn : j ≠ i) : On (l.setIfInBounds i true) j (on (l.setIfInBounds i true) b = true) := (h.keep hn).map on_mono
theorem Off.map {l : Array Bool} {i : Nat} {p q : Prop} (h : Off l i p) (f : p → q) : Off l i q := fun k => f (h k)
/-- What has come up after what. -/
def Edg (l : Array Bool) (E : List (Nat × Nat)) : Prop := ∀ p ∈ E, on l p.1 = true → on l p.2 = true
theorem Edg.mono {l : Array Bool} {E : List (Nat × Nat)} {i : Nat} (h : Edg l E) (hi : ∀ p ∈ E, p.1 ≠ i) : Edg (l.setIfInBounds i true) E := fun p hp k => on_mono (h p hp (on_ne k (hi p hp)))
theorem Edg.step {l : Array Bool} {E : List (Nat × Nat)} {i : Nat} (h : Edg l E) (hs : ∀ p ∈ E, p.1 = i → on l p.2 = true) : Edg (l.setIfInBounds i true) E := fun p hp k => by
  by_cases e : p.1 = i
  · exact on_mono (hs p hp e)
  · exact on_mono (h p hp (on_ne k e))
theorem Edg.get {l : Array Bool} {E : List (Nat × Nat)} (h : Edg l E) (a b : Nat) (m : (a, b) ∈ E) (k : on l a = true) : on l b = true := h (a, b) m k
theorem Edg.start {n : Nat} {E : List (Nat × Nat)} : Edg (Array.replicate n false) E := fun p _ k => absurd k (by
  intro k
  unfold on at k
  rw [Array.getD_eq_getD_getElem?] at k
  by_cases h : p.1 < n
  · simp [h] at k
  · simp [Array.getElem?_eq_none (show (Array.replicate n false).size ≤ p.1 by simp; omega)] at k)
theorem OnFix.fixE {l : Array Bool} {v v0 val : Nat → Value} {fx : List Nat} {i : Nat} {x : Value} (h : OnFix l v val fx) (_ : v0 i = x) (hx : x = val i) : OnFix l (upd v i x) val fx := h.fix hx
end Go.Proofs.Ytdpjknjlhchmcaa

namespace Go.Proofs.Ytdpjknjlhchmcaa
open Go.RowKit Pl
set_option linter.unusedVariables false
set_option linter.unusedSimpArgs false
theorem of_five (v1 v2 v3 v4 v5 : Value) (y : Cx) (B1 B2 B3 : Option Addr) (w : World) (hy : Num3 w B1 B2 B3 y) (k1 : v1.oneCell' = true) (k2 : v2.oneCell' = true) (k3 : v3.oneCell' = true) (k4 : v4.oneCell' = true) (k5 : v5.oneCell' = true) :
    Calls Try.prog 112 #[.agg #[v1, v2, v3, v4, v5], .agg #[.bool (sn (na y)), .slice B1 (ln (ab (na y))) (ln (ab (na y))), .bool (sn (nb y)), .slice B2 (ln (ab (nb y))) (ln (ab (nb y))), .slice B3 (ln (un y)) (ln (un y))]] w (RetNum w y) := by
  go_enter Try.func112, Try.ntmps112
  go_wp2_with fail
  exact bodyPost_ret (v := .agg #[.bool (sn (na y)), .slice B1 (ln (ab (na y))) (ln (ab (na y))), .bool (sn (nb y)), .slice B2 (ln (ab (nb y))) (ln (ab (nb y))), .slice B3 (ln (un y)) (ln (un y))]) (by simp [results, Try.results112, go_sem]) rfl ⟨B1, B2, B3, rfl, ⟨((hy.1.alloc _).alloc _).alloc _, ((hy.2.1.alloc _).alloc _).alloc _, ((hy.2.2.alloc _).alloc _).alloc _⟩, (((Below.refl _ _).alloc (Nat.le_refl _) _).alloc (by simp) _).alloc (by simp; omega) _⟩
end Go.Proofs.Ytdpjknjlhchmcaa

namespace Go.Proofs.Ytdpjknjlhchmcaa
open Go.RowKit Pl
set_option linter.unusedVariables false
set_option linter.unusedSimpArgs false
theorem sz_add2 {K L : Nat} {x y : Cx} (hx : sz K x) (hy : sz L y) : sz (K + L + 1) (x.add y) := by
  rw [← add_fr]
  refine fr_sz (by have := nd_pos x; have := nd_pos y; exact Nat.mul_ne_zero (nd_ne0 x) (nd_ne0 y)) ?_ ?_ ?_
  · have := ab_add_ln (K := K + L) (ab_mul_ln hx.1 (ab_nat_ln hy.2.2)) (Nat.le_trans (ab_mul_ln hy.1 (ab_nat_ln hx.2.2)) (by omega)); omega
  · have := ab_add_ln (K := K + L) (ab_mul_ln hx.2.1 (ab_nat_ln hy.2.2)) (Nat.le_trans (ab_mul_ln hy.2.1 (ab_nat_ln hx.2.2)) (by omega)); omega
  · have := nat_mul_ln hx.2.2 hy.2.2; omega
theorem sz_mul2 {K L : Nat} {x y : Cx} (hx : sz K x) (hy : sz L y) : sz (K + L + 1) (x.mul y) := by
  rw [← mul_fr, Int.sub_eq_add_neg]
  refine fr_sz (Nat.mul_ne_zero (nd_ne0 x) (nd_ne0 y)) ?_ ?_ ?_
  · have := ab_add_ln (ab_mul_ln hx.1 hy.1) (b := -(nb x * nb y)) (by rw [ab_neg]; exact ab_mul_ln hx.2.1 hy.2.1); omega
  · have := ab_add_ln (ab_mul_ln hx.1 hy.2.1) (ab_mul_ln hx.2.1 hy.1); omega
  · have := nat_mul_ln hx.2.2 hy.2.2; omega
theorem sz_sub2 {K L : Nat} {x y : Cx} (hx : sz K x) (hy : sz L y) : sz (K + L + 1) (x.sub y) := sz_add2 hx (sz_neg hy)
theorem sz_div2 {K L : Nat} {x y : Cx} (hL : 1 ≤ L) (hx : sz K x) (hy : sz L y) (h0 : y ≠ Cx.zero) : sz (K + 3 * L + 2) (x.div y) := by
  rw [← div_fr x h0]
  have hz := sz_mul2 hx (fr_sz (a := na y) (b := -nb y) (d := 1) (by omega) hy.1 (by rw [ab_neg]; exact hy.2.1) (by rw [ln_one]; exact hL))
  refine fr_sz (div_ne x h0) ?_ ?_ ?_
  · have := ab_mul_ln hz.1 (ab_nat_ln hy.2.2); omega
  · have := ab_mul_ln hz.2.1 (ab_nat_ln hy.2.2); omega
  · have h1 := ab_add_ln (ab_mul_ln hy.1 hy.1) (ab_mul_ln hy.2.1 hy.2.1); have := nat_mul_ln hz.2.2 h1; omega
/-- A matrix with rows p and c exchanged. -/
def swp (p c : Nat) (f : Nat → Nat → Cx) : Nat → Nat → Cx := fun i k => if i = p then f c k else if i = c then f p k else f i k
theorem swp_self (c : Nat) (f : Nat → Nat → Cx) : swp c c f = f := by
  funext i k
  unfold swp
  split
  · rename_i h; rw [h]
  · rfl
/-- What row i has behind the column c when row c is taken from it. -/
def lowF (c : Nat) (f : Nat → Nat → Cx) (i k : Nat) : Cx := (f i k).sub (((f i c).div (f c c)).mul (f c k))
/-- The rows below row c without column c (what stands in column c stays). -/
def low (c : Nat) (f : Nat → Nat → Cx) : Nat → Nat → Cx := fun i k => if c < i ∧ c < k then lowF c f i k else f i k
/-- The first of d rows from p on that has something in column c; or p + d. -/
def piv (f : Nat → Nat → Cx) (c : Nat) : Nat → Nat → Nat
  | 0, p => p
  | d + 1, p => if f p c = Cx.zero then piv f c d (p + 1) else p
theorem piv_spec (f : Nat → Nat → Cx) (c : Nat) : ∀ d a, a ≤ piv f c d a ∧ piv f c d a ≤ a + d ∧ (∀ q, a ≤ q → q < piv f c d a → f q c = Cx.zero) ∧ (piv f c d a < a + d → f (piv f c d a) c ≠ Cx.zero) := by
  intro d
  induction d with
  | zero => intro a; exact ⟨Nat.le_refl _, Nat.le_refl _, fun q h1 h2 => absurd h1 (Nat.not_le_of_lt h2), fun h => absurd h (Nat.lt_irrefl _)⟩
  | succ d ih =>
    intro a
    unfold piv
    by_cases h : f a c = Cx.zero
    · rw [if_pos h]
      obtain ⟨h1, h2, h3, h4⟩ := ih (a + 1)
      refine ⟨by omega, by omega, fun q k1 k2 => ?_, fun k => h4 (by omega)⟩
      by_cases e : q = a
      · rw [e]; exact h
      · exact h3 q (by omega) k2
    · rw [if_neg h]
      exact ⟨Nat.le_refl _, by omega, fun q h1 h2 => absurd h1 (Nat.not_le_of_lt h2), fun _ => h⟩
/-- The elimination of the d columns from c on: exchanges, the column at which it stops, the matrix. -/
def elimF : Nat → Nat → Nat → (Nat → Nat → Cx) → Nat × Int × (Nat → Nat → Cx)
  | 0, _, s, f => (s, -1, f)
  | d + 1, c, s, f => if piv f c (d + 1) c = c + (d + 1) then (s, (c : Int), f) else elimF d (c + 1) (if piv f c (d + 1) c = c then s else s + 1) (low c (swp (piv f c (d + 1) c) c f))
theorem elim_stop {d c s : Nat} {f : Nat → Nat → Cx} (hd : 0 < d) (h : piv f c d c = c + d) : elimF d c s f = (s, (c : Int), f) := by
  obtain ⟨e, rfl⟩ : ∃ e, d = e + 1 := ⟨d - 1, by omega⟩
  unfold elimF
  rw [if_pos h]
theorem elim_next {d c s p : Nat} {f : Nat → Nat → Cx} (h : piv f c d c = p) (hp : p < c + d) : elimF d c s f = elimF (d - 1) (c + 1) (if p = c then s else s + 1) (low c (swp p c f)) := by
  obtain ⟨e, rfl⟩ : ∃ e, d = e + 1 := ⟨d - 1, by have := (piv_spec f c d c).1; omega⟩
  rw [elimF, if_neg (by omega), h]
  rfl
/-- Sizes behind c rounds. -/
def bd (K : Nat) : Nat → Nat
  | 0 => K
  | c + 1 => 6 * bd K c + 4
theorem bd_le (K : Nat) : ∀ c, K ≤ bd K c := by
  intro c
  induction c with
  | zero => exact Nat.le_refl _
  | succ c ih => show K ≤ 6 * bd K c + 4; omega
theorem bd_mono (K : Nat) : ∀ c d, c ≤ d → bd K c ≤ bd K d := by
  intro c d h
  induction d with
  | zero => rw [Nat.le_zero.1 h]; exact Nat.le_refl _
  | succ d ih =>
    by_cases e : c = d + 1
    · rw [e]; exact Nat.le_refl _
    · have := ih (by omega); show bd K c ≤ 6 * bd K d + 4; omega
theorem sz_lowF {K c i k : Nat} {f : Nat → Nat → Cx} (hK : 1 ≤ K) (h0 : f c c ≠ Cx.zero) (h1 : sz K (f i k)) (h2 : sz K (f i c)) (h3 : sz K (f c c)) (h4 : sz K (f c k)) : sz (6 * K + 4) (lowF c f i k) :=
  (sz_sub2 h1 (sz_mul2 (sz_div2 hK h2 h3 h0) h4)).mono (by omega)
theorem sz_low {K c n m : Nat} {f : Nat → Nat → Cx} (hK : 1 ≤ K) (hc : c < n) (hm : n ≤ m) (h0 : f c c ≠ Cx.zero) (h : ∀ i k, i < n → k < m → sz K (f i k)) : ∀ i k, i < n → k < m → sz (6 * K + 4) (low c f i k) := by
  intro i k hi hk
  unfold low
  split
  · exact sz_lowF hK h0 (h i k hi hk) (h i c hi (by omega)) (h c c hc (by omega)) (h c k hc hk)
  · exact (h i k hi hk).mono (by omega)
theorem sz_swp {K p c n m : Nat} {f : Nat → Nat → Cx} (hp : p < n) (hc : c < n) (h : ∀ i k, i < n → k < m → sz K (f i k)) : ∀ i k, i < n → k < m → sz K (swp p c f i k) := by
  intro i k hi hk
  unfold swp
  split
  · exact h c k hc hk
  · split
    · exact h p k hp hk
    · exact h i k hi hk
theorem swp_piv {p c : Nat} {f : Nat → Nat → Cx} : swp p c f c c = f p c := by
  unfold swp
  by_cases e : c = p
  · rw [if_pos e, e]
  · rw [if_neg e, if_pos rfl]
end Go.Proofs.Ytdpjknjlhchmcaa

namespace Go.Proofs.Ytdpjknjlhchmcaa
open Go.RowKit Pl
set_option linter.unusedVariables false
set_option linter.unusedSimpArgs false
/-- The sum of the first j products of row i and column k. -/
def dotC (f g : Nat → Nat → Cx) (i k : Nat) : Nat → Cx
  | 0 => Cx.zero
  | j + 1 => (dotC f g i k j).add ((f i j).mul (g j k))
theorem zero_add_c (x : Cx) : Cx.zero.add x = x := by
  cases x; simp [Cx.zero, Cx.add, Rat.zero_add]
end Go.Proofs.Ytdpjknjlhchmcaa

namespace Go.Proofs.Ytdpjknjlhchmcaa
open Go.RowKit Pl
set_option linter.unusedVariables false
set_option linter.unusedSimpArgs false
/-- A minor of two rows. -/
def m2 (A B : Nat → Cx) (i j : Nat) : Cx := ((A i).mul (B j)).sub ((A j).mul (B i))
/-- The determinant of four rows. -/
def D4 (A B C D : Nat → Cx) : Cx :=
  ((((((m2 A B 0 1).mul (m2 C D 2 3)).sub ((m2 A B 0 2).mul (m2 C D 1 3))).add ((m2 A B 0 3).mul (m2 C D 1 2))).add ((m2 A B 1 2).mul (m2 C D 0 3))).sub ((m2 A B 1 3).mul (m2 C D 0 2))).add ((m2 A B 2 3).mul (m2 C D 0 1))
theorem m2_swap (A B : Nat → Cx) (i j : Nat) : m2 B A i j = (m2 A B i j).neg := by
  unfold m2
  refine Cx.ext' ?_ ?_ <;> simp only [Cx.add, Cx.sub, Cx.neg, Cx.mul] <;> grind
theorem m2_lin (t : Cx) (A B C : Nat → Cx) (i j : Nat) : m2 (fun k => (A k).sub (t.mul (B k))) C i j = (m2 A C i j).sub (t.mul (m2 B C i j)) := by
  unfold m2
  refine Cx.ext' ?_ ?_ <;> simp only [Cx.add, Cx.sub, Cx.neg, Cx.mul] <;> grind
/-- Six products with signs. -/
def six (a1 a2 a3 a4 a5 a6 b1 b2 b3 b4 b5 b6 : Cx) : Cx := ((((((a1).mul (b1)).sub ((a2).mul (b2))).add ((a3).mul (b3))).add ((a4).mul (b4))).sub ((a5).mul (b5))).add ((a6).mul (b6))
theorem D4_six (A B C D : Nat → Cx) : D4 A B C D = six (m2 A B 0 1) (m2 A B 0 2) (m2 A B 0 3) (m2 A B 1 2) (m2 A B 1 3) (m2 A B 2 3) (m2 C D 2 3) (m2 C D 1 3) (m2 C D 1 2) (m2 C D 0 3) (m2 C D 0 2) (m2 C D 0 1) := rfl
theorem six_negl (a1 a2 a3 a4 a5 a6 b1 b2 b3 b4 b5 b6 : Cx) : six a1.neg a2.neg a3.neg a4.neg a5.neg a6.neg b1 b2 b3 b4 b5 b6 = (six a1 a2 a3 a4 a5 a6 b1 b2 b3 b4 b5 b6).neg := by
  unfold six
  refine Cx.ext' ?_ ?_ <;> simp only [Cx.add, Cx.sub, Cx.neg, Cx.mul] <;> grind
theorem six_negr (a1 a2 a3 a4 a5 a6 b1 b2 b3 b4 b5 b6 : Cx) : six a1 a2 a3 a4 a5 a6 b1.neg b2.neg b3.neg b4.neg b5.neg b6.neg = (six a1 a2 a3 a4 a5 a6 b1 b2 b3 b4 b5 b6).neg := by
  unfold six
  refine Cx.ext' ?_ ?_ <;> simp only [Cx.add, Cx.sub, Cx.neg, Cx.mul] <;> grind
theorem six_linl (t a1 a2 a3 a4 a5 a6 c1 c2 c3 c4 c5 c6 b1 b2 b3 b4 b5 b6 : Cx) : six (a1.sub (t.mul c1)) (a2.sub (t.mul c2)) (a3.sub (t.mul c3)) (a4.sub (t.mul c4)) (a5.sub (t.mul c5)) (a6.sub (t.mul c6)) b1 b2 b3 b4 b5 b6 = (six a1 a2 a3 a4 a5 a6 b1 b2 b3 b4 b5 b6).sub (t.mul (six c1 c2 c3 c4 c5 c6 b1 b2 b3 b4 b5 b6)) := by
  unfold six
  refine Cx.ext' ?_ ?_ <;> simp only [Cx.add, Cx.sub, Cx.neg, Cx.mul] <;> grind
theorem D4_s01 (A B C D : Nat → Cx) : D4 B A C D = (D4 A B C D).neg := by
  simp only [D4_six, m2_swap A B, six_negl]
theorem D4_s23 (A B C D : Nat → Cx) : D4 A B D C = (D4 A B C D).neg := by
  simp only [D4_six, m2_swap C D, six_negr]
theorem D4_s12 (A B C D : Nat → Cx) : D4 A C B D = (D4 A B C D).neg := by
  unfold D4 m2
  refine Cx.ext' ?_ ?_ <;> simp only [Cx.add, Cx.sub, Cx.neg, Cx.mul] <;> grind
theorem D4_l0 (t : Cx) (A B C D E : Nat → Cx) : D4 (fun k => (A k).sub (t.mul (B k))) C D E = (D4 A C D E).sub (t.mul (D4 B C D E)) := by
  simp only [D4_six, m2_lin, six_linl]
theorem neg_neg_c (x : Cx) : x.neg.neg = x := by
  refine Cx.ext' ?_ ?_ <;> simp only [Cx.neg] <;> grind
theorem neg_lin (x t y : Cx) : (x.sub (t.mul y)).neg = x.neg.sub (t.mul y.neg) := by
  refine Cx.ext' ?_ ?_ <;> simp only [Cx.add, Cx.sub, Cx.neg, Cx.mul] <;> grind
theorem D4_l1 (t : Cx) (A B C D E : Nat → Cx) : D4 C (fun k => (A k).sub (t.mul (B k))) D E = (D4 C A D E).sub (t.mul (D4 C B D E)) := by
  rw [D4_s01, D4_l0, neg_lin, ← D4_s01, ← D4_s01]
theorem D4_l2 (t : Cx) (A B C D E : Nat → Cx) : D4 C D (fun k => (A k).sub (t.mul (B k))) E = (D4 C D A E).sub (t.mul (D4 C D B E)) := by
  rw [D4_s12, D4_l1, neg_lin, ← D4_s12, ← D4_s12]
theorem D4_l3 (t : Cx) (A B C D E : Nat → Cx) : D4 C D E (fun k => (A k).sub (t.mul (B k))) = (D4 C D E A).sub (t.mul (D4 C D E B)) := by
  rw [D4_s23, D4_l2, neg_lin, ← D4_s23, ← D4_s23]
/-- The determinant of the first four rows of a matrix. -/
def dt (f : Nat → Nat → Cx) : Cx := D4 (f 0) (f 1) (f 2) (f 3)
theorem dt_s01 (f : Nat → Nat → Cx) : dt (swp 0 1 f) = (dt f).neg := D4_s01 (f 0) (f 1) (f 2) (f 3)
theorem dt_s12 (f : Nat → Nat → Cx) : dt (swp 1 2 f) = (dt f).neg := D4_s12 (f 0) (f 1) (f 2) (f 3)
theorem dt_s23 (f : Nat → Nat → Cx) : dt (swp 2 3 f) = (dt f).neg := D4_s23 (f 0) (f 1) (f 2) (f 3)
theorem swp_comm (p c : Nat) (f : Nat → Nat → Cx) : swp p c f = swp c p f := by
  funext i k
  unfold swp
  by_cases h : i = p <;> by_cases h2 : i = c
  · rw [if_pos h, if_pos h2, ← h, ← h2]
  · rw [if_pos h, if_neg h2, if_pos h]
  · rw [if_neg h, if_pos h2, if_pos h2]
  · rw [if_neg h, if_neg h2, if_neg h2, if_neg h]
theorem swp_via {a b c : Nat} (hab : a ≠ b) (hbc : b ≠ c) (hac : a ≠ c) (f : Nat → Nat → Cx) : swp a c f = swp a b (swp b c (swp a b f)) := by
  funext i k
  unfold swp
  by_cases h1 : i = a
  · subst h1
    rw [if_pos rfl, if_pos rfl, if_pos rfl, if_neg (Ne.symm hac), if_neg (Ne.symm hbc)]
  · by_cases h2 : i = b
    · subst h2
      rw [if_neg h1, if_neg hbc, if_neg h1, if_pos rfl, if_neg hab, if_neg hac, if_pos rfl]
    · by_cases h3 : i = c
      · subst h3
        rw [if_neg h1, if_pos rfl, if_neg h1, if_neg h2, if_neg h2, if_pos rfl, if_neg (Ne.symm hab), if_pos rfl]
      · rw [if_neg h1, if_neg h3, if_neg h1, if_neg h2, if_neg h2, if_neg h3, if_neg h1, if_neg h2]
theorem dt_via {a b c : Nat} (hab : a ≠ b) (hbc : b ≠ c) (hac : a ≠ c) (h1 : ∀ f, dt (swp a b f) = (dt f).neg) (h2 : ∀ f, dt (swp b c f) = (dt f).neg) (f : Nat → Nat → Cx) : dt (swp a c f) = (dt f).neg := by
  rw [swp_via hab hbc hac, h1, h2, h1, neg_neg_c]
theorem dt_lt {p c : Nat} (hp : p < c) (hc : c < 4) (f : Nat → Nat → Cx) : dt (swp p c f) = (dt f).neg := by
  have h02 := fun f => dt_via (a := 0) (b := 1) (c := 2) (by decide) (by decide) (by decide) dt_s01 dt_s12 f
  have h13 := fun f => dt_via (a := 1) (b := 2) (c := 3) (by decide) (by decide) (by decide) dt_s12 dt_s23 f
  have h03 := fun f => dt_via (a := 0) (b := 1) (c := 3) (by decide) (by decide) (by decide) dt_s01 h13 f
  have : (p = 0 ∧ c = 1) ∨ (p = 0 ∧ c = 2) ∨ (p = 0 ∧ c = 3) ∨ (p = 1 ∧ c = 2) ∨ (p = 1 ∧ c = 3) ∨ (p = 2 ∧ c = 3) := by omega
  rcases this with ⟨rfl, rfl⟩ | ⟨rfl, rfl⟩ | ⟨rfl, rfl⟩ | ⟨rfl, rfl⟩ | ⟨rfl, rfl⟩ | ⟨rfl, rfl⟩
  · exact dt_s01 f
  · exact h02 f
  · exact h03 f
  · exact dt_s12 f
  · exact h13 f
  · exact dt_s23 f
/-- Exchanging two rows changes the sign. -/
theorem dt_swp {p c : Nat} (hp : p < 4) (hc : c < 4) (hn : p ≠ c) (f : Nat → Nat → Cx) : dt (swp p c f) = (dt f).neg := by
  by_cases h : p < c
  · exact dt_lt h hc f
  · rw [swp_comm]; exact dt_lt (by omega) hp f
/-- Row r is replaced. -/
def setR (r : Nat) (R : Nat → Cx) (f : Nat → Nat → Cx) : Nat → Nat → Cx := fun i => if i = r then R else f i
theorem dt_lin {r : Nat} (hr : r < 4) (t : Cx) (A B : Nat → Cx) (f : Nat → Nat → Cx) : dt (setR r (fun k => (A k).sub (t.mul (B k))) f) = (dt (setR r A f)).sub (t.mul (dt (setR r B f))) := by
  have : r = 0 ∨ r = 1 ∨ r = 2 ∨ r = 3 := by omega
  rcases this with rfl | rfl | rfl | rfl
  · exact D4_l0 t A B (f 1) (f 2) (f 3)
  · exact D4_l1 t A B (f 0) (f 2) (f 3)
  · exact D4_l2 t A B (f 0) (f 1) (f 3)
  · exact D4_l3 t A B (f 0) (f 1) (f 2)
theorem self_neg {x : Cx} (h : x = x.neg) : x = Cx.zero := by
  have h1 : x.re = -x.re := congrArg Cx.re h
  have h2 : x.im = -x.im := congrArg Cx.im h
  refine Cx.ext' ?_ ?_ <;> simp only [Cx.zero] <;> grind
theorem sub_zero_c (x t : Cx) : x.sub (t.mul Cx.zero) = x := by
  refine Cx.ext' ?_ ?_ <;> simp only [Cx.add, Cx.sub, Cx.neg, Cx.mul, Cx.zero] <;> grind
/-- Two equal rows. -/
theorem dt_eq {r c : Nat} (hr : r < 4) (hc : c < 4) (hn : r ≠ c) (f : Nat → Nat → Cx) : dt (setR r (f c) f) = Cx.zero := by
  refine self_neg ?_
  have := dt_swp hr hc hn (setR r (f c) f)
  rw [← this]
  congr 1
  funext i k
  unfold swp setR
  by_cases h1 : i = r
  · rw [if_pos h1, if_pos h1, if_neg (Ne.symm hn)]
  · rw [if_neg h1, if_neg h1]
    by_cases h2 : i = c
    · rw [if_pos h2, if_pos rfl, h2]
    · rw [if_neg h2]
/-- A multiple of row c is taken from row r. -/
theorem dt_row {r c : Nat} (hr : r < 4) (hc : c < 4) (hn : r ≠ c) (t : Cx) (f : Nat → Nat → Cx) : dt (setR r (fun k => (f r k).sub (t.mul (f c k))) f) = dt f := by
  rw [dt_lin hr, dt_eq hr hc hn, sub_zero_c]
  congr 1
  funext i
  unfold setR
  by_cases h : i = r
  · rw [if_pos h, h]
  · rw [if_neg h]
/-- Multiples of row c are taken from all rows (t c = 0). -/
def rows (c : Nat) (t : Nat → Cx) (f : Nat → Nat → Cx) : Nat → Nat → Cx := fun i k => (f i k).sub ((t i).mul (f c k))
theorem zero_mul_c (x : Cx) : Cx.zero.mul x = Cx.zero := by
  refine Cx.ext' ?_ ?_ <;> simp only [Cx.mul, Cx.zero] <;> grind
theorem sub_zero_l (x y : Cx) : x.sub (Cx.zero.mul y) = x := by
  refine Cx.ext' ?_ ?_ <;> simp only [Cx.add, Cx.sub, Cx.neg, Cx.mul, Cx.zero] <;> grind
theorem dt_congr {f g : Nat → Nat → Cx} (h : ∀ i k, i < 4 → k < 4 → f i k = g i k) : dt f = dt g := by
  unfold dt D4 m2
  simp only [h 0 0 (by decide) (by decide), h 0 1 (by decide) (by decide), h 0 2 (by decide) (by decide), h 0 3 (by decide) (by decide), h 1 0 (by decide) (by decide), h 1 1 (by decide) (by decide), h 1 2 (by decide) (by decide), h 1 3 (by decide) (by decide), h 2 0 (by decide) (by decide), h 2 1 (by decide) (by decide), h 2 2 (by decide) (by decide), h 2 3 (by decide) (by decide), h 3 0 (by decide) (by decide), h 3 1 (by decide) (by decide), h 3 2 (by decide) (by decide), h 3 3 (by decide) (by decide)]
/-- The rows below j are done. -/
def rowsTo (c : Nat) (t : Nat → Cx) (f : Nat → Nat → Cx) (j : Nat) : Nat → Nat → Cx := fun i k => if i < j then (f i k).sub ((t i).mul (f c k)) else f i k
theorem dt_rowsTo {c : Nat} (hc : c < 4) {t : Nat → Cx} (ht : t c = Cx.zero) (f : Nat → Nat → Cx) : ∀ j, j ≤ 4 → dt (rowsTo c t f j) = dt f := by
  intro j
  induction j with
  | zero => intro _; congr 1
  | succ j ih =>
    intro hj
    rw [← ih (by omega)]
    by_cases e : j = c
    · subst e
      congr 1
      funext i k
      unfold rowsTo
      by_cases h : i < j
      · rw [if_pos h, if_pos (by omega)]
      · rw [if_neg h]
        by_cases h2 : i = j
        · rw [if_pos (by omega), h2, ht, sub_zero_l]
        · rw [if_neg (by omega)]
    · rw [← dt_row (r := j) (c := c) (by omega) hc e (t j) (rowsTo c t f j)]
      congr 1
      funext i k
      unfold setR
      have hcc : rowsTo c t f j c k = f c k := by
        unfold rowsTo
        split
        · rw [ht, sub_zero_l]
        · rfl
      by_cases h : i = j
      · subst h
        rw [if_pos rfl]
        simp only [hcc]
        unfold rowsTo
        rw [if_pos (by omega), if_neg (by omega)]
      · rw [if_neg h]
        unfold rowsTo
        by_cases h2 : i < j
        · rw [if_pos h2, if_pos (by omega)]
        · rw [if_neg h2, if_neg (by omega)]
theorem dt_rows {c : Nat} (hc : c < 4) {t : Nat → Cx} (ht : t c = Cx.zero) (f : Nat → Nat → Cx) : dt (rows c t f) = dt f := by
  rw [← dt_rowsTo hc ht f 4 (Nat.le_refl _)]
  refine dt_congr fun i k hi hk => ?_
  unfold rowsTo rows
  rw [if_pos hi]
/-- A row is multiplied. -/
theorem dt_scale {r : Nat} (hr : r < 4) (s : Cx) (f : Nat → Nat → Cx) : dt (setR r (fun k => s.mul (f r k)) f) = s.mul (dt f) := by
  have h := dt_lin hr ((Cx.ofInt 1).sub s) (f r) (f r) f
  have e : setR r (f r) f = f := by
    funext i; unfold setR
    by_cases h : i = r
    · rw [if_pos h, h]
    · rw [if_neg h]
  rw [e] at h
  have e2 : ∀ x : Cx, x.sub (((Cx.ofInt 1).sub s).mul x) = s.mul x := by
    intro x
    refine Cx.ext' ?_ ?_ <;> simp only [Cx.add, Cx.sub, Cx.neg, Cx.mul, Cx.ofInt] <;> grind
  rw [e2] at h
  rw [← h]
  congr 1
  funext i k
  unfold setR
  by_cases h : i = r
  · rw [if_pos h, if_pos h, e2]
  · rw [if_neg h, if_neg h]
/-- The transposed matrix. -/
theorem dt_tr (f : Nat → Nat → Cx) : dt (fun i k => f k i) = dt f := by
  unfold dt D4 m2
  refine Cx.ext' ?_ ?_ <;> simp only [Cx.add, Cx.sub, Cx.neg, Cx.mul] <;> grind
theorem conj_mul_c (x y : Cx) : (x.mul y).conj = x.conj.mul y.conj := by
  refine Cx.ext' ?_ ?_ <;> simp only [Cx.mul, Cx.conj] <;> grind
theorem conj_sub_c (x y : Cx) : (x.sub y).conj = x.conj.sub y.conj := by
  refine Cx.ext' ?_ ?_ <;> simp only [Cx.sub, Cx.add, Cx.neg, Cx.conj] <;> grind
theorem conj_add_c (x y : Cx) : (x.add y).conj = x.conj.add y.conj := by
  refine Cx.ext' ?_ ?_ <;> simp only [Cx.add, Cx.conj] <;> grind
theorem dt_conj (f : Nat → Nat → Cx) : dt (fun i k => (f i k).conj) = (dt f).conj := by
  unfold dt D4 m2
  simp only [conj_mul_c, conj_sub_c, conj_add_c]
end Go.Proofs.Ytdpjknjlhchmcaa

namespace Go.Proofs.Ytdpjknjlhchmcaa
open Go.RowKit Pl
set_option linter.unusedVariables false
set_option linter.unusedSimpArgs false
theorem div_mul_c (x : Cx) {y : Cx} (h : y ≠ Cx.zero) : (x.div y).mul y = x := of_decide_eq_true (la8 x h)
theorem sub_self_c (x : Cx) : x.sub x = Cx.zero := by
  refine Cx.ext' ?_ ?_ <;> simp only [Cx.add, Cx.sub, Cx.neg, Cx.zero] <;> grind
theorem clear_c (x : Cx) {y : Cx} (h : y ≠ Cx.zero) : x.sub ((x.div y).mul y) = Cx.zero := by rw [div_mul_c x h, sub_self_c]
/-- Below row r, column c is cleared. -/
def facs (r c : Nat) (f : Nat → Nat → Cx) : Nat → Cx := fun i => if r < i then (f i c).div (f r c) else Cx.zero
def facs2 (c : Nat) (f : Nat → Nat → Cx) : Nat → Cx := fun i => if i = c then Cx.zero else (f i c).div (f c c)
section
variable {n : Nat} {Q : (Nat → Nat → Cx) → Prop}
theorem gj_tail (h1 : ∀ p c f, p < n → c < n → p ≠ c → Q (swp p c f) → Q f) (h2 : ∀ c t f, c < n → t c = Cx.zero → Q (rows c t f) → Q f)
    (h4 : ∀ f, 0 < n → (∀ k, k < n → f (n - 1) k = Cx.zero) → Q f) :
    ∀ d c r f, c + d = n → r < c → (∀ i k, r ≤ i → i < n → k < c → f i k = Cx.zero) → Q f := by
  intro d
  induction d with
  | zero => intro c r f e hr hz; exact h4 f (by omega) fun k hk => hz _ _ (by omega) (by omega) (by omega)
  | succ d ih =>
    intro c r f e hr hz
    obtain ⟨p1, p2, p3, p4⟩ := piv_spec f c (n - r) r
    by_cases hp : piv f c (n - r) r = n
    · refine ih (c + 1) r f (by omega) (by omega) fun i k hi hn hk => ?_
      by_cases ek : k = c
      · rw [ek]; exact p3 i hi (by omega)
      · exact hz i k hi hn (by omega)
    · generalize piv f c (n - r) r = p at *
      have hg : ∀ g, (∀ i k, r ≤ i → i < n → k < c → g i k = Cx.zero) → g r c ≠ Cx.zero → Q g := by
        intro g hgz hg0
        refine h2 r (facs r c g) g (by omega) (if_neg (by omega)) (ih (c + 1) (r + 1) _ (by omega) (by omega) fun i k hi hn hk => ?_)
        unfold rows facs
        rw [if_pos (by omega)]
        by_cases ek : k = c
        · rw [ek]; exact clear_c _ hg0
        · rw [hgz i k (by omega) hn (by omega), hgz r k (Nat.le_refl _) (by omega) (by omega), sub_zero_c]
      by_cases ep : p = r
      · subst ep; exact hg f hz (p4 (by omega))
      · refine h1 p r f (by omega) (by omega) ep (hg _ (fun i k hi hn hk => ?_) ?_)
        · unfold swp
          split
          · exact hz r k (Nat.le_refl _) (by omega) hk
          · split
            · exact hz p k p1 (by omega) hk
            · exact hz i k hi hn hk
        · unfold swp
          rw [if_neg (by omega), if_pos rfl]
          exact p4 (by omega)
theorem gj_head (h1 : ∀ p c f, p < n → c < n → p ≠ c → Q (swp p c f) → Q f) (h2 : ∀ c t f, c < n → t c = Cx.zero → Q (rows c t f) → Q f)
    (h3 : ∀ f, (∀ i k, i < n → k < n → i ≠ k → f i k = Cx.zero) → (∀ i, i < n → f i i ≠ Cx.zero) → Q f)
    (h4 : ∀ f, 0 < n → (∀ k, k < n → f (n - 1) k = Cx.zero) → Q f) :
    ∀ d c f, c + d = n → (∀ i k, i < n → k < c → i ≠ k → f i k = Cx.zero) → (∀ i, i < c → f i i ≠ Cx.zero) → Q f := by
  intro d
  induction d with
  | zero => intro c f e hz hd; exact h3 f (fun i k hi hk => hz i k hi (by omega)) (fun i hi => hd i (by omega))
  | succ d ih =>
    intro c f e hz hd
    obtain ⟨p1, p2, p3, p4⟩ := piv_spec f c (n - c) c
    by_cases hp : piv f c (n - c) c = n
    · refine gj_tail h1 h2 h4 d (c + 1) c f (by omega) (by omega) fun i k hi hn hk => ?_
      by_cases ek : k = c
      · rw [ek]; exact p3 i hi (by omega)
      · exact hz i k hn (by omega) (by omega)
    · generalize piv f c (n - c) c = p at *
      have hg : ∀ g, (∀ i k, i < n → k < c → i ≠ k → g i k = Cx.zero) → (∀ i, i < c → g i i ≠ Cx.zero) → g c c ≠ Cx.zero → Q g := by
        intro g hgz hgd hg0
        refine h2 c (facs2 c g) g (by omega) (if_pos rfl) (ih (c + 1) _ (by omega) (fun i k hi hk hn => ?_) fun i hi => ?_)
        · unfold rows facs2
          by_cases ek : k = c
          · rw [ek, if_neg (by omega)]; exact clear_c _ hg0
          · rw [hgz i k hi (by omega) hn, hgz c k (by omega) (by omega) (by omega), sub_zero_c]
        · unfold rows facs2
          by_cases ei : i = c
          · rw [ei, if_pos rfl, sub_zero_l]; exact hg0
          · rw [hgz c i (by omega) (by omega) (by omega), sub_zero_c]; exact hgd i (by omega)
      by_cases ep : p = c
      · subst ep; exact hg f hz hd (p4 (by omega))
      · refine h1 p c f (by omega) (by omega) ep (hg _ (fun i k hi hk hn => ?_) (fun i hi => ?_) ?_)
        · unfold swp
          split
          · exact hz c k (by omega) hk (by omega)
          · split
            · exact hz p k (by omega) hk (by omega)
            · exact hz i k hi hk hn
        · unfold swp
          rw [if_neg (by omega), if_neg (by omega)]
          exact hd i hi
        · unfold swp
          rw [if_neg (by omega), if_pos rfl]
          exact p4 (by omega)
theorem gj (h1 : ∀ p c f, p < n → c < n → p ≠ c → Q (swp p c f) → Q f) (h2 : ∀ c t f, c < n → t c = Cx.zero → Q (rows c t f) → Q f)
    (h3 : ∀ f, (∀ i k, i < n → k < n → i ≠ k → f i k = Cx.zero) → (∀ i, i < n → f i i ≠ Cx.zero) → Q f)
    (h4 : ∀ f, 0 < n → (∀ k, k < n → f (n - 1) k = Cx.zero) → Q f) (f : Nat → Nat → Cx) : Q f :=
  gj_head h1 h2 h3 h4 n 0 f (by omega) (fun i k _ hk => absurd hk (Nat.not_lt_zero _)) (fun i hi => absurd hi (Nat.not_lt_zero _))
end
/-- n rows and columns of four, the others from the identity. -/
def pad (n : Nat) (f : Nat → Nat → Cx) : Nat → Nat → Cx := fun i k => if i < n ∧ k < n then f i k else if i = k then Cx.ofInt 1 else Cx.zero
theorem pad_in {n i k : Nat} {f : Nat → Nat → Cx} (hi : i < n) (hk : k < n) : pad n f i k = f i k := if_pos ⟨hi, hk⟩
theorem pad_out {n i k : Nat} {f : Nat → Nat → Cx} (h : ¬ (i < n ∧ k < n)) : pad n f i k = if i = k then Cx.ofInt 1 else Cx.zero := if_neg h
theorem pad_congr {n : Nat} {f g : Nat → Nat → Cx} (h : ∀ i k, i < n → k < n → f i k = g i k) : pad n f = pad n g := by
  funext i k
  unfold pad
  split
  · rename_i e; exact h i k e.1 e.2
  · rfl
theorem pad_swp {n p c : Nat} {f : Nat → Nat → Cx} (hp : p < n) (hc : c < n) : pad n (swp p c f) = swp p c (pad n f) := by
  funext i k
  unfold swp
  by_cases hk : k < n
  · by_cases h1 : i = p
    · rw [if_pos h1, pad_in (by omega) hk, pad_in hc hk, if_pos h1]
    · rw [if_neg h1]
      by_cases h2 : i = c
      · rw [if_pos h2, pad_in (by omega) hk, pad_in hp hk, if_neg h1, if_pos h2]
      · rw [if_neg h2]
        unfold pad
        simp only [if_neg h1, if_neg h2]
  · by_cases h1 : i = p
    · rw [if_pos h1, pad_out (by omega), pad_out (by omega), if_neg (by omega), if_neg (by omega)]
    · rw [if_neg h1]
      by_cases h2 : i = c
      · rw [if_pos h2, pad_out (by omega), pad_out (by omega), if_neg (by omega), if_neg (by omega)]
      · rw [if_neg h2, pad_out (by omega), pad_out (by omega)]
theorem dtp_swp {n p c : Nat} (hn : n ≤ 4) {f : Nat → Nat → Cx} (hp : p < n) (hc : c < n) (h : p ≠ c) : dt (pad n (swp p c f)) = (dt (pad n f)).neg := by
  rw [pad_swp hp hc]; exact dt_swp (by omega) (by omega) h _
theorem dtp_rows {n c : Nat} (hn : n ≤ 4) {f : Nat → Nat → Cx} {t : Nat → Cx} (hc : c < n) (ht : t c = Cx.zero) : dt (pad n (rows c t f)) = dt (pad n f) := by
  rw [← dt_rows (c := c) (by omega) (t := fun i => if i < n then t i else Cx.zero) (by simp only [if_pos hc]; exact ht) (pad n f)]
  refine dt_congr fun i k hi hk => ?_
  show _ = (pad n f i k).sub (Cx.mul (if i < n then t i else Cx.zero) (pad n f c k))
  by_cases h1 : i < n
  · rw [if_pos h1]
    by_cases h2 : k < n
    · rw [pad_in h1 h2, pad_in h1 h2, pad_in hc h2]; rfl
    · rw [pad_out (by omega), pad_out (by omega), pad_out (i := c) (by omega), if_neg (by omega), if_neg (by omega), sub_zero_c]
  · rw [if_neg h1, sub_zero_l, pad_out (by omega), pad_out (by omega)]
theorem dt_scale4 (s : Nat → Cx) (f : Nat → Nat → Cx) : dt (fun i k => (s i).mul (f i k)) = (s 3).mul ((s 2).mul ((s 1).mul ((s 0).mul (dt f)))) := by
  have e : ∀ r (g : Nat → Nat → Cx), r < 4 → (dt fun i k => if i ≤ r then (s i).mul (g i k) else g i k) = (s r).mul (dt fun i k => if i < r then (s i).mul (g i k) else g i k) := by
    intro r g hr
    rw [← dt_scale hr]
    congr 1
    funext i k
    unfold setR
    by_cases h : i = r
    · rw [if_pos h, if_pos (by omega), if_neg (by omega), h]
    · rw [if_neg h]
      by_cases h2 : i < r
      · simp only [if_pos h2, if_pos (show i ≤ r by omega)]
      · simp only [if_neg h2, if_neg (show ¬ i ≤ r by omega)]
  have e3 := e 3 f (by decide)
  have e2 := e 2 f (by decide)
  have e1 := e 1 f (by decide)
  have e0 := e 0 f (by decide)
  simp only [Nat.lt_succ_iff, show ∀ i, (i < 3 ↔ i ≤ 2) from fun i => Nat.lt_succ_iff, show ∀ i, (i < 2 ↔ i ≤ 1) from fun i => Nat.lt_succ_iff, show ∀ i, (i < 1 ↔ i ≤ 0) from fun i => Nat.lt_succ_iff] at e3 e2 e1
  simp only [Nat.not_lt_zero, if_false] at e0
  rw [show (dt fun i k => (s i).mul (f i k)) = dt (fun i k => if i ≤ 3 then (s i).mul (f i k) else f i k) from dt_congr fun i k hi hk => by rw [if_pos (by omega)], e3, e2, e1, e0]
theorem dt_id : dt (fun i k => if i = k then Cx.ofInt 1 else Cx.zero) = Cx.ofInt 1 := by
  unfold dt D4 m2
  simp only [if_pos, if_neg, Nat.zero_ne_one, Nat.reduceEqDiff, if_true, if_false]
  refine Cx.ext' ?_ ?_ <;> simp only [Cx.add, Cx.sub, Cx.neg, Cx.mul, Cx.zero, Cx.ofInt] <;> grind
theorem mul_one_c (x : Cx) : x.mul (Cx.ofInt 1) = x := by
  refine Cx.ext' ?_ ?_ <;> simp only [Cx.mul, Cx.ofInt] <;> grind
theorem mul_zero_c (x : Cx) : x.mul Cx.zero = Cx.zero := by
  refine Cx.ext' ?_ ?_ <;> simp only [Cx.mul, Cx.zero] <;> grind
theorem one_mul_c (x : Cx) : (Cx.ofInt 1).mul x = x := by
  refine Cx.ext' ?_ ?_ <;> simp only [Cx.mul, Cx.ofInt] <;> grind
theorem add_zero_c (x : Cx) : x.add Cx.zero = x := by
  refine Cx.ext' ?_ ?_ <;> simp only [Cx.add, Cx.zero] <;> grind
theorem mul_assoc_c (x y z : Cx) : (x.mul y).mul z = x.mul (y.mul z) := of_decide_eq_true (la4 x y z)
theorem mul_neg_c (x y : Cx) : x.neg.mul y = (x.mul y).neg := by
  refine Cx.ext' ?_ ?_ <;> simp only [Cx.mul, Cx.neg] <;> grind
theorem neg_inj {x y : Cx} (h : x.neg = y.neg) : x = y := by rw [← neg_neg_c x, h, neg_neg_c]
theorem dot_row {f f' g : Nat → Nat → Cx} {i i' : Nat} (h : f i = f' i') (k : Nat) : ∀ j, dotC f g i k j = dotC f' g i' k j := by
  intro j
  induction j with
  | zero => rfl
  | succ j ih => simp only [dotC, ih, h]
theorem dot_zero {f g : Nat → Nat → Cx} {i k : Nat} : ∀ j, (∀ l, l < j → f i l = Cx.zero) → dotC f g i k j = Cx.zero := by
  intro j
  induction j with
  | zero => intro _; rfl
  | succ j ih => intro h; simp only [dotC]; rw [ih fun l hl => h l (by omega), h j (by omega), zero_mul_c, add_zero_c]
theorem dot_one {f g : Nat → Nat → Cx} {i k n : Nat} (h : ∀ l, l < n → i ≠ l → f i l = Cx.zero) : ∀ j, j ≤ n → dotC f g i k j = if i < j then (f i i).mul (g i k) else Cx.zero := by
  intro j
  induction j with
  | zero => intro _; rw [if_neg (by omega)]; rfl
  | succ j ih =>
    intro hj
    simp only [dotC]
    rw [ih (by omega)]
    by_cases e : i = j
    · subst e; rw [if_neg (by omega), if_pos (by omega), zero_add_c]
    · rw [h j (by omega) e, zero_mul_c, add_zero_c]
      by_cases e2 : i < j
      · rw [if_pos e2, if_pos (by omega)]
      · rw [if_neg e2, if_neg (by omega)]
theorem dot_rows {f g : Nat → Nat → Cx} {c : Nat} {t : Nat → Cx} (i k : Nat) : ∀ j, dotC (rows c t f) g i k j = (dotC f g i k j).sub ((t i).mul (dotC f g c k j)) := by
  intro j
  induction j with
  | zero => simp only [dotC]; rw [sub_zero_c]
  | succ j ih =>
    simp only [dotC]
    rw [ih]
    unfold rows
    refine Cx.ext' ?_ ?_ <;> simp only [Cx.add, Cx.sub, Cx.neg, Cx.mul] <;> grind
/-- The product of two matrices. -/
def mulM (n : Nat) (f g : Nat → Nat → Cx) : Nat → Nat → Cx := fun i k => dotC f g i k n
theorem dtp_zero {n : Nat} (hn : n ≤ 4) (h0 : 0 < n) {f : Nat → Nat → Cx} (h : ∀ k, k < n → f (n - 1) k = Cx.zero) : dt (pad n f) = Cx.zero := by
  have := dt_scale (r := n - 1) (by omega) Cx.zero (pad n f)
  rw [zero_mul_c] at this
  rw [← this]
  refine dt_congr fun i k hi hk => ?_
  unfold setR
  by_cases e : i = n - 1
  · rw [if_pos e, zero_mul_c, e]
    by_cases hk2 : k < n
    · rw [pad_in (by omega) hk2, h k hk2]
    · rw [pad_out (by omega), if_neg (by omega)]
  · rw [if_neg e]
theorem dtp_diag {n : Nat} (hn : n ≤ 4) {f g : Nat → Nat → Cx} (h : ∀ i k, i < n → k < n → i ≠ k → f i k = Cx.zero) : dt (pad n (mulM n f g)) = (dt (pad n f)).mul (dt (pad n g)) := by
  obtain ⟨s, hs⟩ : ∃ s : Nat → Cx, s = fun i => if i < n then f i i else Cx.ofInt 1 := ⟨_, rfl⟩
  have e1 : dt (pad n (mulM n f g)) = dt (fun i k => (s i).mul (pad n g i k)) := by
    refine dt_congr fun i k hi hk => ?_
    rw [hs]
    by_cases h1 : i < n
    · simp only [if_pos h1]
      by_cases h2 : k < n
      · rw [pad_in h1 h2, pad_in h1 h2]
        unfold mulM
        rw [dot_one (n := n) (fun l hl hne => h i l h1 hl hne) n (Nat.le_refl _), if_pos h1]
      · rw [pad_out (by omega), pad_out (by omega), if_neg (by omega), mul_zero_c]
    · simp only [if_neg h1]
      rw [pad_out (by omega), pad_out (by omega), one_mul_c]
  have e2 : dt (pad n f) = dt (fun i k => (s i).mul (if i = k then Cx.ofInt 1 else Cx.zero)) := by
    refine dt_congr fun i k hi hk => ?_
    rw [hs]
    by_cases h1 : i < n
    · simp only [if_pos h1]
      by_cases h2 : k < n
      · rw [pad_in h1 h2]
        by_cases e : i = k
        · rw [if_pos e, mul_one_c, e]
        · rw [if_neg e, mul_zero_c, h i k h1 h2 e]
      · rw [pad_out (by omega), if_neg (by omega), mul_zero_c]
    · simp only [if_neg h1]
      rw [pad_out (by omega), one_mul_c]
  rw [e1, e2, dt_scale4, dt_scale4, dt_id, mul_one_c]
  simp only [mul_assoc_c]
/-- The determinant of a product. -/
theorem dtp_mul {n : Nat} (hn : n ≤ 4) (f g : Nat → Nat → Cx) : dt (pad n (mulM n f g)) = (dt (pad n f)).mul (dt (pad n g)) := by
  refine gj (n := n) (Q := fun f => dt (pad n (mulM n f g)) = (dt (pad n f)).mul (dt (pad n g))) ?_ ?_ ?_ ?_ f
  · intro p c f hp hc hpc h
    have e : mulM n (swp p c f) g = swp p c (mulM n f g) := by
      funext i k
      unfold mulM swp
      split
      · exact dot_row (by rename_i h; subst h; funext l; simp) k n
      · split
        · exact dot_row (by rename_i h1 h2; subst h2; funext l; simp [h1]) k n
        · exact dot_row (by rename_i h1 h2; funext l; simp [h1, h2]) k n
    rw [e, dtp_swp hn hp hc hpc, dtp_swp hn hp hc hpc, mul_neg_c] at h
    exact neg_inj h
  · intro c t f hc ht h
    have e : mulM n (rows c t f) g = rows c t (mulM n f g) := by
      funext i k
      exact dot_rows i k n
    rw [e, dtp_rows hn hc ht, dtp_rows hn hc ht] at h
    exact h
  · intro f h _
    exact dtp_diag hn h
  · intro f h0 h
    rw [dtp_zero hn h0 h, zero_mul_c]
    refine dtp_zero hn h0 fun k hk => ?_
    unfold mulM
    exact dot_zero n h
/-- The adjoint. -/
theorem dtp_adj {n : Nat} (f : Nat → Nat → Cx) : dt (pad n fun i k => (f k i).conj) = (dt (pad n f)).conj := by
  rw [← dt_conj, ← dt_tr (fun i k => (pad n f i k).conj)]
  refine dt_congr fun i k _ _ => ?_
  by_cases h : i < n ∧ k < n
  · rw [pad_in h.1 h.2, pad_in h.2 h.1]
  · rw [pad_out h, pad_out (fun e => h ⟨e.2, e.1⟩)]
    by_cases e : i = k
    · rw [if_pos e, if_pos e.symm]; rfl
    · rw [if_neg e, if_neg (Ne.symm e)]; rfl
end Go.Proofs.Ytdpjknjlhchmcaa

namespace Go.Proofs.Ytdpjknjlhchmcaa
open Go.RowKit Pl
set_option linter.unusedVariables false
set_option linter.unusedSimpArgs false
/-- Zeros below the diagonal in the first c columns. -/
def clr (c : Nat) (f : Nat → Nat → Cx) : Nat → Nat → Cx := fun i k => if k < c ∧ k < i then Cx.zero else f i k
/-- The product of the diagonal. -/
def dgp (f : Nat → Nat → Cx) : Nat → Cx
  | 0 => f 0 0
  | j + 1 => (dgp f j).mul (f (j + 1) (j + 1))
def sgn (s : Nat) (x : Cx) : Cx := if s % 2 = 1 then x.neg else x
/-- The determinant that an elimination yields. -/
def detV (n : Nat) (r : Nat × Int × (Nat → Nat → Cx)) : Cx := if 0 ≤ r.2.1 then Cx.zero else if n = 0 then Cx.ofInt 1 else sgn r.1 (dgp r.2.2 (n - 1))
def detF (n : Nat) (f : Nat → Nat → Cx) : Cx := detV n (elimF n 0 0 f)
theorem dt_tri {f : Nat → Nat → Cx} (h1 : f 1 0 = Cx.zero) (h2 : f 2 0 = Cx.zero) (h3 : f 2 1 = Cx.zero) (h4 : f 3 0 = Cx.zero) (h5 : f 3 1 = Cx.zero) (h6 : f 3 2 = Cx.zero) : dt f = dgp f 3 := by
  unfold dt D4 m2
  simp only [dgp, h1, h2, h3, h4, h5, h6]
  refine Cx.ext' ?_ ?_ <;> simp only [Cx.add, Cx.sub, Cx.neg, Cx.mul, Cx.zero] <;> grind
theorem dtp_tri {n : Nat} (hn : n ≤ 4) (h0 : 0 < n) {f : Nat → Nat → Cx} (h : ∀ i k, i < n → k < i → f i k = Cx.zero) : dt (pad n f) = dgp f (n - 1) := by
  have hz : ∀ i k, k < i → pad n f i k = Cx.zero := by
    intro i k hk
    by_cases h1 : i < n
    · rw [pad_in h1 (by omega)]; exact h i k h1 hk
    · rw [pad_out (by omega), if_neg (by omega)]
  rw [dt_tri (hz 1 0 (by decide)) (hz 2 0 (by decide)) (hz 2 1 (by decide)) (hz 3 0 (by decide)) (hz 3 1 (by decide)) (hz 3 2 (by decide))]
  have hd : ∀ j, j < n → dgp (pad n f) j = dgp f j := by
    intro j
    induction j with
    | zero => intro h; exact pad_in h h
    | succ j ih => intro h; simp only [dgp]; rw [ih (by omega), pad_in h h]
  have ho : ∀ j, n ≤ j + 1 → dgp (pad n f) j = dgp f (n - 1) := by
    intro j
    induction j with
    | zero => intro h; obtain rfl : n = 1 := by omega
              exact hd 0 (by decide)
    | succ j ih =>
      intro h
      by_cases e : n = j + 2
      · subst e; exact hd (j + 1) (by omega)
      · simp only [dgp]
        rw [ih (by omega), pad_out (by omega), if_pos rfl, mul_one_c]
  exact ho 3 (by omega)
theorem dt_stop {c : Nat} (hc : c < 4) {f : Nat → Nat → Cx} (h : ∀ i k, c ≤ i → i < 4 → k ≤ c → f i k = Cx.zero) : dt f = Cx.zero := by
  have : c = 0 ∨ c = 1 ∨ c = 2 ∨ c = 3 := by omega
  unfold dt D4 m2
  rcases this with rfl | rfl | rfl | rfl
  · simp only [h 0 0 (by decide) (by decide) (by decide), h 1 0 (by decide) (by decide) (by decide), h 2 0 (by decide) (by decide) (by decide), h 3 0 (by decide) (by decide) (by decide)]
    refine Cx.ext' ?_ ?_ <;> simp only [Cx.add, Cx.sub, Cx.neg, Cx.mul, Cx.zero] <;> grind
  · simp only [h 1 0 (by decide) (by decide) (by decide), h 2 0 (by decide) (by decide) (by decide), h 3 0 (by decide) (by decide) (by decide), h 1 1 (by decide) (by decide) (by decide), h 2 1 (by decide) (by decide) (by decide), h 3 1 (by decide) (by decide) (by decide)]
    refine Cx.ext' ?_ ?_ <;> simp only [Cx.add, Cx.sub, Cx.neg, Cx.mul, Cx.zero] <;> grind
  · simp only [h 2 0 (by decide) (by decide) (by decide), h 3 0 (by decide) (by decide) (by decide), h 2 1 (by decide) (by decide) (by decide), h 3 1 (by decide) (by decide) (by decide), h 2 2 (by decide) (by decide) (by decide), h 3 2 (by decide) (by decide) (by decide)]
    refine Cx.ext' ?_ ?_ <;> simp only [Cx.add, Cx.sub, Cx.neg, Cx.mul, Cx.zero] <;> grind
  · simp only [h 3 0 (by decide) (by decide) (by decide), h 3 1 (by decide) (by decide) (by decide), h 3 2 (by decide) (by decide) (by decide), h 3 3 (by decide) (by decide) (by decide)]
    refine Cx.ext' ?_ ?_ <;> simp only [Cx.add, Cx.sub, Cx.neg, Cx.mul, Cx.zero] <;> grind
theorem dtp_stop {n c : Nat} (hn : n ≤ 4) (hc : c < n) {f : Nat → Nat → Cx} (h : ∀ i k, c ≤ i → i < n → k ≤ c → f i k = Cx.zero) : dt (pad n f) = Cx.zero := by
  refine dt_stop (c := c) (by omega) fun i k hi hn hk => ?_
  by_cases h1 : i < n
  · rw [pad_in h1 (by omega)]; exact h i k hi h1 hk
  · rw [pad_out (by omega), if_neg (by omega)]
theorem sgn_neg (s : Nat) (x : Cx) : sgn s x.neg = sgn (s + 1) x := by
  unfold sgn
  by_cases h : s % 2 = 1
  · rw [if_pos h, if_neg (by omega), neg_neg_c]
  · rw [if_neg h, if_pos (by omega)]
theorem sgn_zero (s : Nat) : sgn s Cx.zero = Cx.zero := by
  unfold sgn; split <;> rfl
theorem clr_lo {c i k : Nat} {f : Nat → Nat → Cx} (h : k < c) (h2 : k < i) : clr c f i k = Cx.zero := if_pos ⟨h, h2⟩
theorem clr_hi {c i k : Nat} {f : Nat → Nat → Cx} (h : ¬ (k < c ∧ k < i)) : clr c f i k = f i k := if_neg h
theorem clr_low {n c : Nat} {g : Nat → Nat → Cx} (hc : c < n) (h0 : g c c ≠ Cx.zero) : ∀ i k, i < n → k < n → clr (c + 1) (low c g) i k = rows c (facs c c (clr c g)) (clr c g) i k := by
  intro i k hi hk
  have e1 : ∀ k, clr c g c k = if k < c then Cx.zero else g c k := by
    intro k
    unfold clr
    by_cases h : k < c
    · rw [if_pos ⟨h, h⟩, if_pos h]
    · rw [if_neg (fun e => h e.1), if_neg h]
  have e2 : clr c g c c = g c c := by rw [e1, if_neg (Nat.lt_irrefl c)]
  have e3 : clr c g i c = g i c := if_neg (fun e => Nat.lt_irrefl c e.1)
  unfold rows facs
  rw [e2, e1 k, e3]
  by_cases h1 : c < i
  · rw [if_pos h1]
    by_cases h2 : k < c
    · rw [if_pos h2, sub_zero_c]
      unfold clr
      rw [if_pos ⟨by omega, by omega⟩, if_pos ⟨h2, by omega⟩]
    · rw [if_neg h2]
      by_cases h3 : k = c
      · subst h3
        rw [e3, clear_c _ h0]
        exact if_pos ⟨by omega, h1⟩
      · rw [clr_hi (by omega), clr_hi (f := g) (i := i) (k := k) (by omega)]
        exact if_pos ⟨h1, by omega⟩
  · rw [if_neg h1, sub_zero_l]
    by_cases h2 : k < c + 1 ∧ k < i
    · rw [clr_lo h2.1 h2.2, clr_lo (by omega) h2.2]
    · rw [clr_hi h2, clr_hi (by omega)]
      exact if_neg (fun e => h1 e.1)
theorem clr_swp {p c : Nat} {f : Nat → Nat → Cx} (hp : c ≤ p) : clr c (swp p c f) = swp p c (clr c f) := by
  funext i k
  by_cases h2 : k < c
  · by_cases h1 : i = p
    · rw [clr_lo h2 (by omega)]
      unfold swp
      rw [if_pos h1, clr_lo h2 h2]
    · by_cases h3 : i = c
      · rw [clr_lo h2 (by omega)]
        unfold swp
        rw [if_neg h1, if_pos h3, clr_lo h2 (by omega)]
      · unfold swp
        rw [if_neg h1, if_neg h3]
        unfold clr
        simp only [if_neg h1, if_neg h3]
  · rw [clr_hi (by omega)]
    unfold swp
    rw [clr_hi (by omega), clr_hi (by omega), clr_hi (by omega)]
theorem det_elim {n : Nat} (hn : n ≤ 4) (h0 : 0 < n) : ∀ d c s f, c + d = n → detV n (elimF d c s f) = sgn s (dt (pad n (clr c f))) := by
  intro d
  induction d with
  | zero =>
    intro c s f e
    obtain rfl : c = n := by omega
    rw [dtp_tri hn h0 (f := clr c f) (fun i k hi hk => clr_lo (by omega) hk)]
    have hd : ∀ j, dgp (clr c f) j = dgp f j := by
      intro j
      induction j with
      | zero => exact if_neg (fun e => Nat.lt_irrefl _ e.2)
      | succ j ih => simp only [dgp]; rw [ih]; congr 1; exact if_neg (fun e => Nat.lt_irrefl _ e.2)
    rw [hd]
    unfold detV elimF
    rw [if_neg (show ¬ (0 : Int) ≤ -1 by decide), if_neg (by omega)]
  | succ d ih =>
    intro c s f e
    obtain ⟨p1, p2, p3, p4⟩ := piv_spec f c (d + 1) c
    by_cases hp : piv f c (d + 1) c = c + (d + 1)
    · rw [elim_stop (by omega) hp]
      unfold detV
      rw [if_pos (by exact Int.natCast_nonneg c), dtp_stop hn (c := c) (by omega) (fun i k hi hn hk => ?_), sgn_zero]
      unfold clr
      by_cases hkc : k = c
      · rw [if_neg (by omega), hkc]; exact p3 i hi (by omega)
      · exact if_pos ⟨by omega, by omega⟩
    · have hlt : piv f c (d + 1) c < c + (d + 1) := by omega
      rw [elim_next rfl hlt]
      generalize piv f c (d + 1) c = p at *
      have h1 := p4 hlt
      rw [← swp_piv (p := p) (c := c) (f := f)] at h1
      rw [Nat.add_sub_cancel, ih _ _ _ (by omega), pad_congr (clr_low (n := n) (by omega) h1), dtp_rows hn (by omega) (if_neg (by omega))]
      by_cases ep : p = c
      · rw [if_pos ep, ep, swp_self]
      · rw [if_neg ep, clr_swp p1, dtp_swp hn (by omega) (by omega) ep, sgn_neg]
        unfold sgn
        by_cases h : s % 2 = 1
        · rw [if_pos h, if_pos (by omega)]
        · rw [if_neg h, if_neg (by omega)]
/-- The determinant by elimination. -/
theorem detF_eq {n : Nat} (hn : n ≤ 4) (f : Nat → Nat → Cx) : detF n f = dt (pad n f) := by
  by_cases h0 : n = 0
  · subst h0
    have e : pad 0 f = fun i k => if i = k then Cx.ofInt 1 else Cx.zero := by
      funext i k; exact pad_out (by omega)
    rw [e, dt_id]
    rfl
  · unfold detF
    rw [det_elim hn (by omega) n 0 0 f (by omega)]
    have e : clr 0 f = f := by
      funext i k; exact if_neg (by omega)
    rw [e]; rfl
theorem detF_mul {n : Nat} (hn : n ≤ 4) (f g : Nat → Nat → Cx) : detF n (mulM n f g) = (detF n f).mul (detF n g) := by
  rw [detF_eq hn, detF_eq hn, detF_eq hn, dtp_mul hn]
theorem detF_adj {n : Nat} (hn : n ≤ 4) (f : Nat → Nat → Cx) : detF n (fun i k => (f k i).conj) = (detF n f).conj := by
  rw [detF_eq hn, detF_eq hn, dtp_adj]
theorem detF_swp {n p c : Nat} (hn : n ≤ 4) (hp : p < n) (hc : c < n) (h : p ≠ c) (f : Nat → Nat → Cx) : detF n (swp p c f) = (detF n f).neg := by
  rw [detF_eq hn, detF_eq hn, dtp_swp hn hp hc h]
end Go.Proofs.Ytdpjknjlhchmcaa

namespace Go.Proofs.Ytdpjknjlhchmcaa
open Go.RowKit Pl
set_option linter.unusedVariables false
set_option linter.unusedSimpArgs false
theorem elim_sz {n m K0 : Nat} (hnm : n ≤ m) (hK : 1 ≤ K0) : ∀ d c s f, c + d = n → (∀ i k, i < n → k < m → sz (bd K0 c) (f i k)) → ∀ i k, i < n → k < m → sz (bd K0 n) ((elimF d c s f).2.2 i k) := by
  intro d
  induction d with
  | zero => intro c s f e h i k hi hk; obtain rfl : c = n := by omega
            exact h i k hi hk
  | succ d ih =>
    intro c s f e h
    obtain ⟨p1, p2, p3, p4⟩ := piv_spec f c (d + 1) c
    by_cases hp : piv f c (d + 1) c = c + (d + 1)
    · rw [elim_stop (by omega) hp]
      intro i k hi hk
      exact (h i k hi hk).mono (bd_mono K0 c n (by omega))
    · rw [elim_next rfl (by omega)]
      refine ih _ _ _ (by omega) ?_
      have h1 := p4 (by omega)
      rw [← swp_piv (p := piv f c (d + 1) c) (c := c) (f := f)] at h1
      exact sz_low (Nat.le_trans hK (bd_le K0 c)) (by omega) hnm h1 (sz_swp (by omega) (by omega) h)
/-- Where it stops, nothing is left in the column. -/
theorem elim_left {n : Nat} : ∀ d c s f, c + d = n → 0 ≤ (elimF d c s f).2.1 → ∃ t : Nat, (elimF d c s f).2.1 = (t : Int) ∧ t < n ∧ ∀ i, t ≤ i → i < n → (elimF d c s f).2.2 i t = Cx.zero := by
  intro d
  induction d with
  | zero => intro c s f e h
            have : (0 : Int) ≤ -1 := h
            omega
  | succ d ih =>
    intro c s f e h
    obtain ⟨p1, p2, p3, p4⟩ := piv_spec f c (d + 1) c
    by_cases hp : piv f c (d + 1) c = c + (d + 1)
    · rw [elim_stop (by omega) hp]
      exact ⟨c, rfl, by omega, fun i h1 h2 => p3 i h1 (by omega)⟩
    · rw [elim_next rfl (by omega)] at h ⊢
      exact ih _ _ _ (by omega) h
theorem elim_vals {n : Nat} : ∀ d c s f, c + d = n → (elimF d c s f).2.1 = -1 ∨ 0 ≤ (elimF d c s f).2.1 := by
  intro d
  induction d with
  | zero => intro c s f e; exact .inl rfl
  | succ d ih =>
    intro c s f e
    by_cases hp : piv f c (d + 1) c = c + (d + 1)
    · rw [elim_stop (by omega) hp]; exact .inr (Int.natCast_nonneg c)
    · rw [elim_next rfl (by have := (piv_spec f c (d + 1) c).2.1; omega)]; exact ih _ _ _ (by omega)
theorem sz_dgp {n B : Nat} {f : Nat → Nat → Cx} (h : ∀ i, i < n → sz B (f i i)) : ∀ j, j < n → sz ((j + 1) * (B + 1)) (dgp f j) := by
  intro j
  induction j with
  | zero => intro hj; exact (h 0 hj).mono (by omega)
  | succ j ih =>
    intro hj
    exact (sz_mul2 (ih (by omega)) (h (j + 1) hj)).mono (by rw [Nat.succ_mul (j + 1)]; omega)
/-- The size of a determinant. -/
theorem sz_detF {n K0 : Nat} {f : Nat → Nat → Cx} (hn : n ≤ 5) (hK : 1 ≤ K0) (hS : ∀ i k, i < n → k < n → sz K0 (f i k)) : sz (5 * (bd K0 n + 1)) (detF n f) := by
  have h := elim_sz (Nat.le_refl n) hK n 0 0 f (by omega) hS
  have hb := bd_le K0 n
  unfold detF detV
  generalize elimF n 0 0 f = R at *
  split
  · exact sz_int0.mono (by omega)
  · split
    · exact (sz_int (n := 1) (K := 1) (by show ln 1 ≤ 1; rw [ln_one]; omega) (by omega)).mono (by omega)
    · have h2 := (sz_dgp (n := n) (fun i hi => h i i hi hi) (n - 1) (by omega)).mono (show (n - 1 + 1) * (bd K0 n + 1) ≤ 5 * (bd K0 n + 1) from Nat.mul_le_mul_right _ (by omega))
      unfold sgn
      split
      · exact sz_neg h2
      · exact h2
theorem elim_swaps {n : Nat} : ∀ d c s f, c + d = n → s ≤ c → (elimF d c s f).1 ≤ n := by
  intro d
  induction d with
  | zero => intro c s f e h; show s ≤ n; omega
  | succ d ih =>
    intro c s f e h
    by_cases hp : piv f c (d + 1) c = c + (d + 1)
    · rw [elim_stop (by omega) hp]; show s ≤ n; omega
    · rw [elim_next rfl (by have := (piv_spec f c (d + 1) c).2.1; omega)]
      exact ih _ _ _ (by omega) (by split <;> omega)
end Go.Proofs.Ytdpjknjlhchmcaa
