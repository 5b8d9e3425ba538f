/- Part 4 of the proof. -/
import Derived.Test.YtdpjknjlhchmcaaNI1
import Derived.ProofKit
import Derived.OpenShut
import Derived.ReadAgain
import Derived.Below
import Derived.Deep.Slices
import Derived.Lib.SmallJoins
import Derived.Deep.SlicePairs
import Derived.Test.YtdpjknjlhchmcaaNI3
import Derived.Deep.LoopGhost
namespace Go.Proofs.Ytdpjknjlhchmcaa
open Go.ChangeShapes Go.WideShapes Go.ChangeAt Go.RowKit Go.Joins Go.Deep Pl
set_option linter.unusedVariables false
section
variable {H : Type} {enc : TypeId × Value → H} {P : Program}
theorem trodAll_carry {w w' : World} {base : Nat} {spare : Nat → Bool} {held : Bool} : ∀ {ts : List TypeId} {vs : List Value} {ds : List (DataW H)} {ps : List MemPlace}, DataW.TrodAll enc P w base spare held ts vs ds ps → (∀ p ∈ ps, w.sameAt w' p) → DataW.TrodAll enc P w' base spare held ts vs ds ps
  | [], [], [], _, h, _ => h
  | _ :: _, _ :: _, _ :: _, _, ⟨p, q, ⟨n, h1⟩, h2, e⟩, hs => ⟨p, q, ⟨n, DataW.trod_carry n _ _ _ h1 (fun x hx => hs x (by rw [e]; exact List.mem_append_left _ hx))⟩, trodAll_carry h2 (fun x hx => hs x (by rw [e]; exact List.mem_append_right _ hx)), e⟩
/-- Arguments that are only read: what is asked behind the call. -/
theorem read_post {f : Func} {s : ChangeSpec} {apart : Bool} {W W' : World} {args : Array Value} {v : Value} {ds : List (DataW H)} {before : List MemPlace}
    (K : Kids P (· < P.types.size)) (hz : ∀ t e, t < P.types.size → P.underlying t = some (.slice e) → 0 < P.cellsOf e) (hpt : ∀ t ∈ f.params.toList, t < P.types.size)
    (hW : DataW.Whole enc P f.params.toList s.vars apart W args.toList ds [] before) (hA : DataW.TrodAll enc P W 0 (fun _ => true) true f.params.toList args.toList ds before)
    (hres : ∀ (b : Nat) (sp : Nat → Bool) (hd : Bool), DataW.TrodAll enc P W' b sp hd f.resultTypes.toList (v.resultList f.resultTypes.size) (s.fn H (ds ++ [])).results [])
    (hargs : (s.fn H (ds ++ [])).args = ds) (hvars : ∀ sp : Nat → Bool, DataW.TrodVars enc P W' sp s.vars (s.fn H (ds ++ [])).vars [])
    (hb : Below W.heap.size W W') : s.post enc P f apart true false false W args v W' := by
  have hlt := hA.lt
  have hsame : ∀ p ∈ before, W.sameAt W' p := by
    intro p hp
    have hl := hlt p hp
    cases p with
    | cell b off => exact hb.cell (p := ⟨b, off, none⟩) hl
    | map b => exact hb.block b hl
  refine ⟨ds, [], before, [], before, [], hW, hres _ _ _, ?_, hvars _, hb.frame _, fun h => by cases h⟩
  rw [hargs]
  exact trodAll_carry (hA.respare K hz hpt (fun p hp => by simpa using hlt p hp)) hsame
/-- What a slice of structs of three int64s holds. -/
def Triples (w : World) (A : Option Addr) (n : Nat) (X Y Z : Nat → Int) : Prop := ∀ i, i < n → ∃ b off, A = some ⟨b, off, none⟩ ∧ b < w.heap.size ∧
  w.cell? ⟨b, off + i * 3, none⟩ = some (.int .i64 (X i)) ∧ w.cell? ⟨b, off + i * 3 + 1, none⟩ = some (.int .i64 (Y i)) ∧ w.cell? ⟨b, off + i * 3 + 2, none⟩ = some (.int .i64 (Z i)) ∧
  (-9223372036854775808 ≤ X i ∧ X i ≤ 9223372036854775807) ∧ (-9223372036854775808 ≤ Y i ∧ Y i ≤ 9223372036854775807) ∧ (-9223372036854775808 ≤ Z i ∧ Z i ≤ 9223372036854775807)
theorem Triples.to {w w' : World} {A : Option Addr} {n : Nat} {X Y Z : Nat → Int} (h : Triples w A n X Y Z) (hb : Below w.heap.size w w') : Triples w' A n X Y Z := by
  intro i hi
  obtain ⟨b, off, e, hl, c0, c1, c2, r⟩ := h i hi
  exact ⟨b, off, e, Nat.lt_of_lt_of_le hl hb.size, (hb.cell (p := ⟨b, _, none⟩) hl).trans c0, (hb.cell (p := ⟨b, _, none⟩) hl).trans c1, (hb.cell (p := ⟨b, _, none⟩) hl).trans c2, r⟩
theorem add_none {a : Addr} (k : Nat) (h : a.spot = none) : a.add k = ⟨a.block, a.off + k, none⟩ := by
  unfold Addr.add
  split
  · rename_i h0; subst h0; cases a; simp_all
  · rfl
/-- A slice of structs of three int64s, opened. -/
theorem open_triples {W : World} {t e q : TypeId} {f0 f1 f2 : Field} {v : Value} {d : DataW H} {ps : List MemPlace} (ht : P.underlying t = some (.slice e)) (he : P.underlying e = some (.struct #[f0, f1, f2])) (ce : P.cellsOf e = 3)
    (o0 : f0.offset = 0 ∧ f0.type = q) (o1 : f1.offset = 1 ∧ f1.type = q) (o2 : f2.offset = 2 ∧ f2.type = q) (hq : P.underlying q = some (.int .i64)) (cq : P.cellsOf q = 1)
    (hv : v.cells = #[v]) (h : DataW.Trod enc P W 0 (fun _ => true) true t v d ps) :
    ∃ (A : Option Addr) (len cap : Nat) (X Y Z : Nat → Int), v = .slice A len cap ∧ len ≤ cap ∧ cap ≤ maxLen ∧ Triples W A len X Y Z := by
  obtain ⟨fuel, hf⟩ := h
  rw [hv] at hf
  rcases open_slice ht hf with ⟨hcs, _⟩ | ⟨a, len, cap, m, n, D, Pl, hcs, hb, hl, hm, hmm, hx, hel⟩
  · simp only [List.cons.injEq, and_true] at hcs
    exact ⟨none, 0, 0, fun _ => 0, fun _ => 0, fun _ => 0, hcs, Nat.le_refl _, by unfold maxLen; omega, fun i hi => absurd hi (by omega)⟩
  · simp only [List.cons.injEq, and_true] at hcs
    have hm' : m = cap := hmm
    have each : ∀ i, i < len → ∃ z : Int × Int × Int, a.spot = none ∧ W.cell? ⟨a.block, a.off + i * 3, none⟩ = some (.int .i64 z.1) ∧ W.cell? ⟨a.block, a.off + i * 3 + 1, none⟩ = some (.int .i64 z.2.1) ∧ W.cell? ⟨a.block, a.off + i * 3 + 2, none⟩ = some (.int .i64 z.2.2) ∧
        (Lit.int .i64 z.1).wf = true ∧ (Lit.int .i64 z.2.1).wf = true ∧ (Lit.int .i64 z.2.2).wf = true := by
      intro i hi
      obtain ⟨c0', h01, h02⟩ := hel 0 (by omega)
      obtain ⟨_, l0, hc0⟩ := World.cells?_some h01
      have hsp : a.spot = none := by
        rw [ce] at l0 hc0
        have e0 := hc0 0 (by omega)
        have ez : ((a.add (0 * 3)).add 0) = a := by simp [Addr.add]
        rw [ez] at e0
        cases hs : a.spot with
        | none => rfl
        | some x =>
          have hlen : 0 < c0'.length := by omega
          rw [List.getElem?_eq_getElem hlen] at e0
          simp only [World.cell?] at e0
          split at e0
          · simp [hs] at e0
          · cases e0
      obtain ⟨cs', h1, h2⟩ := hel i (by omega)
      rw [ce] at h1
      obtain ⟨_, hlen, hcell⟩ := World.cells?_some h1
      obtain ⟨xs, k, hk, hxy, _, hxl, hff⟩ := DataW.trod_struct he h2
      match xs, hxl, cs', hlen with
      | [y0, y1, y2], _, [v0, v1, v2], _ =>
        have g0 := hff 0 f0 rfl
        have g1 := hff 1 f1 rfl
        have g2 := hff 2 f2 rfl
        simp [o0.1, o0.2, o1.1, o1.2, o2.1, o2.2, cq] at g0 g1 g2
        obtain ⟨z0, e0, _, w0⟩ := DataW.trod_int hq g0
        obtain ⟨z1, e1, _, w1⟩ := DataW.trod_int hq g1
        obtain ⟨z2, e2, _, w2⟩ := DataW.trod_int hq g2
        have k0 := hcell 0 (by omega)
        have k1 := hcell 1 (by omega)
        have k2 := hcell 2 (by omega)
        rw [add_add, add_none _ hsp] at k0 k1 k2
        simp at e0 e1 e2
        subst e0 e1 e2
        exact ⟨(z0, z1, z2), hsp, by simpa using k0, by simpa [Nat.add_assoc] using k1, by simpa [Nat.add_assoc] using k2, w0, w1, w2⟩
    obtain ⟨z, hz⟩ := choose_lt each
    refine ⟨some a, len, cap, fun i => (z i).1, fun i => (z i).2.1, fun i => (z i).2.2, hcs, hl, hm, fun i hi => ?_⟩
    obtain ⟨hsp, c0, c1, c2, w0, w1, w2⟩ := hz i hi
    have hlt : a.block < W.heap.size := by
      obtain ⟨c0', h01, _⟩ := hel 0 (by omega)
      have := World.cells?_block h01 (by rw [ce]; omega)
      simpa [Addr.add] using this
    exact ⟨a.block, a.off, by cases a; simp_all, hlt, c0, c1, c2, bounds_i64 w0, bounds_i64 w1, bounds_i64 w2⟩
end
end Go.Proofs.Ytdpjknjlhchmcaa

namespace Go.Proofs.Ytdpjknjlhchmcaa
open Go.RowKit Pl
set_option linter.unusedVariables false
set_option linter.unusedSimpArgs false
/-- A slice of slices: row i is the slice (R i, N i, K i). -/
def Grid (w : World) (A : Option Addr) (n : Nat) (R : Nat → Option Addr) (N K : Nat → Nat) : Prop := ∀ i, i < n → ∃ b off, A = some ⟨b, off, none⟩ ∧ b < w.heap.size ∧ w.cell? ⟨b, off + i, none⟩ = some (.slice (R i) (N i) (K i))
theorem Grid.to {w w' : World} {A : Option Addr} {n : Nat} {R : Nat → Option Addr} {N K : Nat → Nat} (h : Grid w A n R N K) (hb : Below w.heap.size w w') : Grid w' A n R N K := by
  intro i hi
  obtain ⟨b, off, e, hl, c⟩ := h i hi
  exact ⟨b, off, e, Nat.lt_of_lt_of_le hl hb.size, (hb.cell (p := ⟨b, _, none⟩) hl).trans c⟩
end Go.Proofs.Ytdpjknjlhchmcaa

namespace Go.Proofs.Ytdpjknjlhchmcaa
open Go.RowKit Pl
set_option linter.unusedVariables false
set_option linter.unusedSimpArgs false
/-- A number of the program lies at the offset o of the block g. -/
def PE (w : World) (g o : Nat) (q : Cx) : Prop := ∃ A1 A2 A3, (w.cell? ⟨g, o, none⟩ = some (.bool (sn (na q))) ∧ w.cell? ⟨g, o + 1, none⟩ = some (.slice A1 (ln (ab (na q))) (ln (ab (na q)))) ∧ w.cell? ⟨g, o + 2, none⟩ = some (.bool (sn (nb q))) ∧ w.cell? ⟨g, o + 3, none⟩ = some (.slice A2 (ln (ab (nb q))) (ln (ab (nb q)))) ∧ w.cell? ⟨g, o + 4, none⟩ = some (.slice A3 (ln (un q)) (ln (un q)))) ∧ Num3 w A1 A2 A3 q
theorem PE.lt {w : World} {g o : Nat} {q : Cx} (h : PE w g o q) : g < w.heap.size := by
  obtain ⟨_, _, _, ⟨c0, _⟩, _⟩ := h
  exact World.block_lt_of_cell? w ⟨g, o, none⟩ c0
theorem PE.to {w w' : World} {g o : Nat} {q : Cx} (h : PE w g o q) (hb : Below w.heap.size w w') : PE w' g o q := by
  have l := h.lt
  obtain ⟨A1, A2, A3, ⟨c0, c1, c2, c3, c4⟩, n⟩ := h
  exact ⟨A1, A2, A3, ⟨keepc hb c0 l, keepc hb c1 l, keepc hb c2 l, keepc hb c3 l, keepc hb c4 l⟩, n.to hb⟩
/-- A number is stored at the offset o of the block p. -/
def set5o (w : World) (p o : Nat) (q : Cx) (A1 A2 A3 : Option Addr) : World :=
  ((((w.setCell ⟨p, o, none⟩ (.bool (sn (na q)))).setCell ⟨p, o + 1, none⟩ (.slice A1 (ln (ab (na q))) (ln (ab (na q))))).setCell ⟨p, o + 2, none⟩ (.bool (sn (nb q)))).setCell ⟨p, o + 3, none⟩ (.slice A2 (ln (ab (nb q))) (ln (ab (nb q))))).setCell ⟨p, o + 4, none⟩ (.slice A3 (ln (un q)) (ln (un q)))
theorem set5o_size (w : World) (p o : Nat) (q : Cx) (A1 A2 A3 : Option Addr) : (set5o w p o q A1 A2 A3).heap.size = w.heap.size := by simp [set5o, World.setCell]
theorem set5o_cell {w : World} {p o b i : Nat} {q : Cx} {A1 A2 A3 : Option Addr} {v : Value} (h : w.cell? ⟨b, i, none⟩ = some v) (h1 : b ≠ p ∨ i < o ∨ o + 5 ≤ i) : (set5o w p o q A1 A2 A3).cell? ⟨b, i, none⟩ = some v := keepo (keepo (keepo (keepo (keepo h (by omega)) (by omega)) (by omega)) (by omega)) (by omega)
theorem set5o_below {w W : World} {B p o : Nat} {q : Cx} {A1 A2 A3 : Option Addr} (h : Below B w W) (hp : B ≤ p) : Below B w (set5o W p o q A1 A2 A3) :=
  ((((h.setCell (by exact hp) _).setCell (by exact hp) _).setCell (by exact hp) _).setCell (by exact hp) _).setCell (by exact hp) _
/-- A block whose first cell is no integer holds no number's words. -/
theorem nat_set {w : World} {p o n : Nat} {A : Option Addr} {c : Bool} {v : Value} (h : Nat32 w A n) (u : w.cell? ⟨p, 0, none⟩ = some (.bool c)) : Nat32 (w.setCell ⟨p, o, none⟩ v) A n :=
  h.setBox u (by intro k m e; cases e)
theorem bool_set {w : World} {p o : Nat} {c d : Bool} {v : Value} (u : w.cell? ⟨p, 0, none⟩ = some (.bool c)) (h : o ≠ 0 ∨ v = .bool d) : ∃ e, (w.setCell ⟨p, o, none⟩ v).cell? ⟨p, 0, none⟩ = some (.bool e) := by
  by_cases ho : o = 0
  · subst ho
    rcases h with h | h
    · exact absurd rfl h
    · subst h; exact ⟨d, cell_self u⟩
  · exact ⟨c, keepo u (.inr (by omega))⟩
theorem set5o_nat {w : World} {p o n : Nat} {q : Cx} {A1 A2 A3 A : Option Addr} {c : Bool} (h : Nat32 w A n) (u : w.cell? ⟨p, 0, none⟩ = some (.bool c)) : Nat32 (set5o w p o q A1 A2 A3) A n := by
  obtain ⟨e1, a1⟩ := bool_set (o := o) (v := .bool (sn (na q))) u (.inr rfl)
  obtain ⟨e2, a2⟩ := bool_set (d := false) (o := o + 1) (v := .slice A1 (ln (ab (na q))) (ln (ab (na q)))) a1 (.inl (by omega))
  obtain ⟨e3, a3⟩ := bool_set (d := false) (o := o + 2) (v := .bool (sn (Pl.nb q))) a2 (.inl (by omega))
  obtain ⟨e4, a4⟩ := bool_set (d := false) (o := o + 3) (v := .slice A2 (ln (ab (Pl.nb q))) (ln (ab (Pl.nb q)))) a3 (.inl (by omega))
  exact nat_set (nat_set (nat_set (nat_set (nat_set h u) a1) a2) a3) a4
theorem set5o_bool {w : World} {p o : Nat} {q : Cx} {A1 A2 A3 : Option Addr} {c : Bool} (u : w.cell? ⟨p, 0, none⟩ = some (.bool c)) : ∃ e, (set5o w p o q A1 A2 A3).cell? ⟨p, 0, none⟩ = some (.bool e) := by
  obtain ⟨e1, a1⟩ := bool_set (o := o) (v := .bool (sn (na q))) u (.inr rfl)
  obtain ⟨e2, a2⟩ := bool_set (d := false) (o := o + 1) (v := .slice A1 (ln (ab (na q))) (ln (ab (na q)))) a1 (.inl (by omega))
  obtain ⟨e3, a3⟩ := bool_set (d := false) (o := o + 2) (v := .bool (sn (Pl.nb q))) a2 (.inl (by omega))
  obtain ⟨e4, a4⟩ := bool_set (d := false) (o := o + 3) (v := .slice A2 (ln (ab (Pl.nb q))) (ln (ab (Pl.nb q)))) a3 (.inl (by omega))
  exact bool_set (d := false) (o := o + 4) (v := .slice A3 (ln (un q)) (ln (un q))) a4 (.inl (by omega))
theorem set5o_num3 {w : World} {p o : Nat} {q r : Cx} {A1 A2 A3 B1 B2 B3 : Option Addr} {c : Bool} (h : Num3 w B1 B2 B3 r) (u : w.cell? ⟨p, 0, none⟩ = some (.bool c)) : Num3 (set5o w p o q A1 A2 A3) B1 B2 B3 r := ⟨set5o_nat h.1 u, set5o_nat h.2.1 u, set5o_nat h.2.2 u⟩
theorem PE.set5o {w : World} {g p o i : Nat} {q r : Cx} {A1 A2 A3 : Option Addr} {c : Bool} (h : PE w g i r) (hn : g ≠ p ∨ i + 5 ≤ o ∨ o + 5 ≤ i) (k : w.cell? ⟨p, 0, none⟩ = some (.bool c)) : PE (set5o w p o q A1 A2 A3) g i r := by
  obtain ⟨B1, B2, B3, ⟨c0, c1, c2, c3, c4⟩, n⟩ := h
  exact ⟨B1, B2, B3, ⟨set5o_cell c0 (by omega), set5o_cell c1 (by omega), set5o_cell c2 (by omega), set5o_cell c3 (by omega), set5o_cell c4 (by omega)⟩, set5o_num3 n k⟩
theorem pe_set {w : World} {p o m : Nat} {T : TypeId} {F : Nat → Value} {q : Cx} {A1 A2 A3 : Option Addr} {c : Bool} (hr : w.rowIs p T m F) (ho : o + 5 ≤ m) (k : w.cell? ⟨p, 0, none⟩ = some (.bool c)) (n : Num3 w A1 A2 A3 q) : PE (set5o w p o q A1 A2 A3) p o q := by
  refine ⟨A1, A2, A3, ?_, set5o_num3 n k⟩
  have u0 := hr.cell (i := o) (by omega)
  have u1 := hr.cell (i := o + 1) (by omega)
  have u2 := hr.cell (i := o + 2) (by omega)
  have u3 := hr.cell (i := o + 3) (by omega)
  have u4 := hr.cell (i := o + 4) (by omega)
  unfold Proofs.Ytdpjknjlhchmcaa.set5o
  have o0 := cell_self (u := .bool (sn (na q))) u0
  refine ⟨?_, ?_, ?_, ?_, ?_⟩
  · exact keepo (keepo (keepo (keepo o0 (by omega)) (by omega)) (by omega)) (by omega)
  · exact keepo (keepo (keepo (cell_self (keepo u1 (by omega))) (by omega)) (by omega)) (by omega)
  · exact keepo (keepo (cell_self (keepo (keepo u2 (by omega)) (by omega))) (by omega)) (by omega)
  · exact keepo (cell_self (keepo (keepo (keepo u3 (by omega)) (by omega)) (by omega))) (by omega)
  · exact cell_self (keepo (keepo (keepo (keepo u4 (by omega)) (by omega)) (by omega)) (by omega))
/-- The block holds a row of m cells, whatever they are; the first one is a bool. -/
def RowB (w : World) (g : Nat) (T : TypeId) (m : Nat) : Prop := (∃ F, w.rowIs g T m F) ∧ ∃ c, w.cell? ⟨g, 0, none⟩ = some (.bool c)
theorem RowB.lt {w : World} {g m : Nat} {T : TypeId} (h : RowB w g T m) : g < w.heap.size := by
  obtain ⟨⟨F, h⟩, _⟩ := h; exact h.lt
theorem RowB.to {w w' : World} {g m : Nat} {T : TypeId} (h : RowB w g T m) (hb : Below w.heap.size w w') : RowB w' g T m := by
  have l := h.lt
  obtain ⟨⟨F, h⟩, c, k⟩ := h
  exact ⟨⟨F, h.of_block (hb.block g l)⟩, c, keepc hb k l⟩
theorem RowB.set5o {w : World} {g p o m : Nat} {T : TypeId} {q : Cx} {A1 A2 A3 : Option Addr} (h : RowB w g T m) : RowB (set5o w p o q A1 A2 A3) g T m := by
  obtain ⟨⟨F, h⟩, c, k⟩ := h
  by_cases e : g = p
  · subst e
    refine ⟨⟨_, ((((h.set _ _).set _ _).set _ _).set _ _).set _ _⟩, set5o_bool k⟩
  · refine ⟨⟨F, ((((h.setOther (a := ⟨p, o, none⟩) e _).setOther (a := ⟨p, o + 1, none⟩) e _).setOther (a := ⟨p, o + 2, none⟩) e _).setOther (a := ⟨p, o + 3, none⟩) e _).setOther (a := ⟨p, o + 4, none⟩) e _⟩, c, set5o_cell k (.inl e)⟩
end Go.Proofs.Ytdpjknjlhchmcaa

namespace Go.Proofs.Ytdpjknjlhchmcaa
open Go.RowKit Pl
set_option linter.unusedVariables false
set_option linter.unusedSimpArgs false
/-- The five cells of a new number. -/
def Z5 : Array Value := #[.bool false, .slice none 0 0, .bool false, .slice none 0 0, .slice none 0 0]
/-- 'make' of n numbers. -/
def mkN (w : World) (n : Nat) (T : TypeId) : World := w.alloc (.cells (madeCells Z5 (n * 5)) T)
theorem mkN_size (w : World) (n : Nat) (T : TypeId) : (mkN w n T).heap.size = w.heap.size + 1 := by simp [mkN]
theorem mkN_below (w : World) (n : Nat) (T : TypeId) : Below w.heap.size w (mkN w n T) := (Below.refl _ _).alloc (Nat.le_refl _) _
theorem mkN_row (w : World) (n : Nat) (T : TypeId) (hn : 0 < n) : RowB (mkN w n T) w.heap.size T (n * 5) := by
  have h := World.rowIs_alloc w (madeCells Z5 (n * 5)) T (fun j => Z5[j % 5]!) (fun i hi => by rw [size_madeCells] at hi; simp [madeCells, hi]; rfl)
  rw [size_madeCells] at h
  refine ⟨⟨_, h⟩, false, ?_⟩
  exact h.cell (i := 0) (by omega)
theorem mk_nums (n : Nat) (hn : n ≤ 100000) (w : World) : (Instr.makeSlice 42 (.int .i64 (n : Int)) (.int .i64 (n : Int))).run Try.prog w = .ok (.slice (some ⟨w.heap.size, 0, none⟩) n n) (mkN w n 34) := by
  obtain ⟨i, hi, hz, hs, hb⟩ := info_parts Try.info_num
  have := run_make (P := Try.prog) w 42 _ i _ Try.und_nums hi hz .i64 .i64 n n (by omega) (by omega) (by rw [hb]; omega) (by omega)
  simpa [hs, mkN, Z5, Value.cells] using this
end Go.Proofs.Ytdpjknjlhchmcaa

namespace Go.Proofs.Ytdpjknjlhchmcaa
open Go.RowKit Pl
set_option linter.unusedVariables false
set_option linter.unusedSimpArgs false
/-- An operation whose guard is met. -/
theorem wpOp_gg {P : Program} {ops : Array Oper} {Q : Exit → Act → World → Prop} {i : Nat} {o : Oper} {a : Act} {w : World} {K' : Act → World → Prop} (ho : ops[i]? = some o) (hg : Region.wanted o (yielded ops a.tmps) = true)
    (h : ∀ K : Act → World → Prop, (∀ a w, K' a w → K a w) → o.wp P a w K Q) : wpOp P ops Q i K' a w :=
  wpOp_step ho fun K hK => by rw [if_pos hg]; exact h K hK
/-- An operation whose guard is not met. -/
theorem wpOp_sk {P : Program} {ops : Array Oper} {Q : Exit → Act → World → Prop} {i : Nat} {o : Oper} {a : Act} {w : World} {K' : Act → World → Prop} (ho : ops[i]? = some o) (hg : Region.wanted o (yielded ops a.tmps) = false)
    (h : ∀ K : Act → World → Prop, (∀ a w, K' a w → K a w) → K (a.put o.dst undef) w) : wpOp P ops Q i K' a w :=
  wpOp_step ho fun K hK => by rw [if_neg (by rw [hg]; decide)]; exact h K hK
/-- 'append', by what it is known to do. -/
theorem wp_append_run {P : Program} {o : Oper} {a : Act} {w w' : World} {K : Act → World → Prop} {Q : Exit → Act → World → Prop} {s x : Operand} {t : TypeId} {v1 v2 v' : Value}
    (ho : o.op = .call { callee := .builtin .append, args := #[s, x], argTypes := #[t, t] }) (hs : a.eval s = v1) (hx : a.eval x = v2) (hr : (Builtin.append_ #[t, t] o.type #[v1, v2]).run P w = .ok v' w') (h : K (a.put o.dst v') w') : o.wp P a w K Q := by
  unfold Oper.wp execOp
  simp only [ho, resolve, invoke, builtin, Sem.run_bind, Sem.run_pure, Result.andThen_ok, List.map_toArray, List.map_cons, List.map_nil, hs, hx, hr]
  exact h
-- what has come up, and what holds since
def On (l : Array Bool) (i : Nat) (p : Prop) : Prop := on l i = true → p
theorem On.get {l : Array Bool} {i : Nat} {p : Prop} (h : On l i p) (k : on l i = true) : p := h k
theorem On.keep {l : Array Bool} {i j : Nat} {p : Prop} (h : On l i p) (hn : i ≠ j) : On (l.setIfInBounds j true) i p := fun k => h (on_ne k hn)
theorem On.map {l : Array Bool} {i : Nat} {p q : Prop} (h : On l i p) (f : p → q) : On l i q := fun k => f (h k)
theorem On.new {l : Array Bool} {i : Nat} {p : Prop} (h : p) : On l i p := fun _ => h
/-- The slots' values, as a function; those that have come up hold what they should. -/
def upd (v : Nat → Value) (i : Nat) (x : Value) : Nat → Value := fun j => cond (Nat.beq j i) x (v j)
def OnAll (l : Array Bool) (v val : Nat → Value) : Prop := ∀ j, on l j = true → v j = val j
theorem OnAll.get {l : Array Bool} {v val : Nat → Value} (h : OnAll l v val) (j : Nat) (k : on l j = true) : v j = val j := h j k
theorem OnAll.same {l : Array Bool} {v val : Nat → Value} {i : Nat} {x : Value} (h : OnAll l v val) (hx : x = val i) : OnAll l (upd v i x) val := by
  intro j k
  unfold upd
  by_cases e : Nat.beq j i = true
  · rw [e]; rw [Nat.eq_of_beq_eq_true e]; exact hx
  · rw [Bool.eq_false_iff.2 e]; exact h j k
theorem OnAll.fix {l : Array Bool} {v val : Nat → Value} {i : Nat} {x : Value} (h : OnAll l v val) (_ : v i = x) (hx : x = val i) : OnAll l (upd v i x) val := h.same hx
theorem OnAll.new {l : Array Bool} {v val : Nat → Value} {i : Nat} {x : Value} (h : OnAll l v val) (hx : x = val i) : OnAll (l.setIfInBounds i true) (upd v i x) val := by
  intro j k
  unfold upd
  by_cases e : Nat.beq j i = true
  · rw [e]; rw [Nat.eq_of_beq_eq_true e]; exact hx
  · rw [Bool.eq_false_iff.2 e]; exact h j (on_ne k (fun e2 => e (by rw [e2]; exact Nat.beq_refl _)))
theorem OnAll.start {n : Nat} {v val : Nat → Value} : OnAll (Array.replicate n false) v val := by
  intro j k
  unfold on at k
  rw [Array.getD_eq_getD_getElem?] at k
  by_cases h : j < n
  · simp [h] at k
  · simp [Array.getElem?_eq_none (show (Array.replicate n false).size ≤ j by simp; omega)] at k
def Off (l : Array Bool) (i : Nat) (p : Prop) : Prop := ¬ on l i = true → p
theorem Off.get {l : Array Bool} {i : Nat} {p : Prop} (h : Off l i p) (k : ¬ on l i = true) : p := h k
theorem Off.keep {l : Array Bool} {i j : Nat} {p : Prop} (h : Off l i p) : Off (l.setIfInBounds j true) i p := fun k => h (fun k2 => k (on_mono k2))
theorem Off.done {l : Array Bool} {i : Nat} {p : Prop} (h : i < l.size) : Off (l.setIfInBounds i true) i p := fun k => absurd (by
  unfold on
  simp [Array.getD_eq_getD_getElem?, Array.getElem?_setIfInBounds, h]) k
theorem Off.new {l : Array Bool} {i : Nat} {p : Prop} (h : p) : Off l i p := fun _ => h
/-- As OnAll, for the listed operations alone. -/
def OnFix (l : Array Bool) (v val : Nat → Value) (fx : List Nat) : Prop := ∀ j, j ∈ fx → on l j = true → v j = val j
theorem OnFix.get {l : Array Bool} {v val : Nat → Value} {fx : List Nat} (h : OnFix l v val fx) (j : Nat) (m : j ∈ fx) (k : on l j = true) : v j = val j := h j m k
theorem OnFix.fix {l : Array Bool} {v val : Nat → Value} {fx : List Nat} {i : Nat} {x : Value} (h : OnFix l v val fx) (hx : x = val i) : OnFix l (upd v i x) val fx := by
  intro j m k
  unfold upd
  by_cases e : Nat.beq j i = true
  · rw [e]; rw [Nat.eq_of_beq_eq_true e]; exact hx
  · rw [Bool.eq_false_iff.2 e]; exact h j m k
theorem OnFix.new {l : Array Bool} {v val : Nat → Value} {fx : List Nat} {i : Nat} {x : Value} (h : OnFix l v val fx) (hx : x = val i) : OnFix (l.setIfInBounds i true) (upd v i x) val fx := by
  intro j m k
  unfold upd
  by_cases e : Nat.beq j i = true
  · rw [e]; rw [Nat.eq_of_beq_eq_true e]; exact hx
  · rw [Bool.eq_false_iff.2 e]; exact h j m (on_ne k (fun e2 => e (by rw [e2]; exact Nat.beq_refl _)))
theorem OnFix.other {l : Array Bool} {v val : Nat → Value} {fx : List Nat} {i : Nat} (h : OnFix l v val fx) (hi : i ∉ fx) : OnFix (l.setIfInBounds i true) v val fx :=
  fun j m k => h j m (on_ne k (fun e => hi (e ▸ m)))
theorem OnFix.start {n : Nat} {v val : Nat → Value} {fx : List Nat} : OnFix (Array.replicate n false) v val fx := fun j _ k => OnAll.start (n := n) (v := v) (val := val) j k
theorem On.mono {l : Array Bool} {i j b : Nat} (h : On l j (on l b = true)) (hn : j ≠ i) : On (l.setIfInBounds i true) j (on (l.setIfInBounds i true) b = true) := (h.keep hn).map on_mono
theorem Off.map {l : Array Bool} {i : Nat} {p q : Prop} (h : Off l i p) (f : p → q) : Off l i q := fun k => f (h k)
/-- What has come up after what. -/
def Edg (l : Array Bool) (E : List (Nat × Nat)) : Prop := ∀ p ∈ E, on l p.1 = true → on l p.2 = true
theorem Edg.mono {l : Array Bool} {E : List (Nat × Nat)} {i : Nat} (h : Edg l E) (hi : ∀ p ∈ E, p.1 ≠ i) : Edg (l.setIfInBounds i true) E := fun p hp k => on_mono (h p hp (on_ne k (hi p hp)))
theorem Edg.step {l : Array Bool} {E : List (Nat × Nat)} {i : Nat} (h : Edg l E) (hs : ∀ p ∈ E, p.1 = i → on l p.2 = true) : Edg (l.setIfInBounds i true) E := fun p hp k => by
  by_cases e : p.1 = i
  · exact on_mono (hs p hp e)
  · exact on_mono (h p hp (on_ne k e))
theorem Edg.get {l : Array Bool} {E : List (Nat × Nat)} (h : Edg l E) (a b : Nat) (m : (a, b) ∈ E) (k : on l a = true) : on l b = true := h (a, b) m k
theorem Edg.start {n : Nat} {E : List (Nat × Nat)} : Edg (Array.replicate n false) E := fun p _ k => absurd k (by
  intro k
  unfold on at k
  rw [Array.getD_eq_getD_getElem?] at k
  by_cases h : p.1 < n
  · simp [h] at k
  · simp [Array.getElem?_eq_none (show (Array.replicate n false).size ≤ p.1 by simp; omega)] at k)
theorem OnFix.fixE {l : Array Bool} {v v0 val : Nat → Value} {fx : List Nat} {i : Nat} {x : Value} (h : OnFix l v val fx) (_ : v0 i = x) (hx : x = val i) : OnFix l (upd v i x) val fx := h.fix hx
end Go.Proofs.Ytdpjknjlhchmcaa

namespace Go.Proofs.Ytdpjknjlhchmcaa
open Go.RowKit Pl
set_option linter.unusedVariables false
set_option linter.unusedSimpArgs false
theorem of_five (v1 v2 v3 v4 v5 : Value) (y : Cx) (B1 B2 B3 : Option Addr) (w : World) (hy : Num3 w B1 B2 B3 y) (k1 : v1.oneCell' = true) (k2 : v2.oneCell' = true) (k3 : v3.oneCell' = true) (k4 : v4.oneCell' = true) (k5 : v5.oneCell' = true) :
    Calls Try.prog 112 #[.agg #[v1, v2, v3, v4, v5], .agg #[.bool (sn (na y)), .slice B1 (ln (ab (na y))) (ln (ab (na y))), .bool (sn (nb y)), .slice B2 (ln (ab (nb y))) (ln (ab (nb y))), .slice B3 (ln (un y)) (ln (un y))]] w (RetNum w y) := by
  go_enter Try.func112, Try.ntmps112
  go_wp2_with fail
  exact bodyPost_ret (v := .agg #[.bool (sn (na y)), .slice B1 (ln (ab (na y))) (ln (ab (na y))), .bool (sn (nb y)), .slice B2 (ln (ab (nb y))) (ln (ab (nb y))), .slice B3 (ln (un y)) (ln (un y))]) (by simp [results, Try.results112, go_sem]) rfl ⟨B1, B2, B3, rfl, ⟨((hy.1.alloc _).alloc _).alloc _, ((hy.2.1.alloc _).alloc _).alloc _, ((hy.2.2.alloc _).alloc _).alloc _⟩, (((Below.refl _ _).alloc (Nat.le_refl _) _).alloc (by simp) _).alloc (by simp; omega) _⟩
end Go.Proofs.Ytdpjknjlhchmcaa

namespace Go.Proofs.Ytdpjknjlhchmcaa
open Go.RowKit Pl
set_option linter.unusedVariables false
set_option linter.unusedSimpArgs false
theorem sz_add2 {K L : Nat} {x y : Cx} (hx : sz K x) (hy : sz L y) : sz (K + L + 1) (x.add y) := by
  rw [← add_fr]
  refine fr_sz (by have := nd_pos x; have := nd_pos y; exact Nat.mul_ne_zero (nd_ne0 x) (nd_ne0 y)) ?_ ?_ ?_
  · have := ab_add_ln (K := K + L) (ab_mul_ln hx.1 (ab_nat_ln hy.2.2)) (Nat.le_trans (ab_mul_ln hy.1 (ab_nat_ln hx.2.2)) (by omega)); omega
  · have := ab_add_ln (K := K + L) (ab_mul_ln hx.2.1 (ab_nat_ln hy.2.2)) (Nat.le_trans (ab_mul_ln hy.2.1 (ab_nat_ln hx.2.2)) (by omega)); omega
  · have := nat_mul_ln hx.2.2 hy.2.2; omega
theorem sz_mul2 {K L : Nat} {x y : Cx} (hx : sz K x) (hy : sz L y) : sz (K + L + 1) (x.mul y) := by
  rw [← mul_fr, Int.sub_eq_add_neg]
  refine fr_sz (Nat.mul_ne_zero (nd_ne0 x) (nd_ne0 y)) ?_ ?_ ?_
  · have := ab_add_ln (ab_mul_ln hx.1 hy.1) (b := -(nb x * nb y)) (by rw [ab_neg]; exact ab_mul_ln hx.2.1 hy.2.1); omega
  · have := ab_add_ln (ab_mul_ln hx.1 hy.2.1) (ab_mul_ln hx.2.1 hy.1); omega
  · have := nat_mul_ln hx.2.2 hy.2.2; omega
theorem sz_sub2 {K L : Nat} {x y : Cx} (hx : sz K x) (hy : sz L y) : sz (K + L + 1) (x.sub y) := sz_add2 hx (sz_neg hy)
theorem sz_div2 {K L : Nat} {x y : Cx} (hL : 1 ≤ L) (hx : sz K x) (hy : sz L y) (h0 : y ≠ Cx.zero) : sz (K + 3 * L + 2) (x.div y) := by
  rw [← div_fr x h0]
  have hz := sz_mul2 hx (fr_sz (a := na y) (b := -nb y) (d := 1) (by omega) hy.1 (by rw [ab_neg]; exact hy.2.1) (by rw [ln_one]; exact hL))
  refine fr_sz (div_ne x h0) ?_ ?_ ?_
  · have := ab_mul_ln hz.1 (ab_nat_ln hy.2.2); omega
  · have := ab_mul_ln hz.2.1 (ab_nat_ln hy.2.2); omega
  · have h1 := ab_add_ln (ab_mul_ln hy.1 hy.1) (ab_mul_ln hy.2.1 hy.2.1); have := nat_mul_ln hz.2.2 h1; omega
/-- A matrix with rows p and c exchanged. -/
def swp (p c : Nat) (f : Nat → Nat → Cx) : Nat → Nat → Cx := fun i k => if i = p then f c k else if i = c then f p k else f i k
theorem swp_self (c : Nat) (f : Nat → Nat → Cx) : swp c c f = f := by
  funext i k
  unfold swp
  split
  · rename_i h; rw [h]
  · rfl
/-- What row i has behind the column c when row c is taken from it. -/
def lowF (c : Nat) (f : Nat → Nat → Cx) (i k : Nat) : Cx := (f i k).sub (((f i c).div (f c c)).mul (f c k))
/-- The rows below row c without column c (what stands in column c stays). -/
def low (c : Nat) (f : Nat → Nat → Cx) : Nat → Nat → Cx := fun i k => if c < i ∧ c < k then lowF c f i k else f i k
/-- The first of d rows from p on that has something in column c; or p + d. -/
def piv (f : Nat → Nat → Cx) (c : Nat) : Nat → Nat → Nat
  | 0, p => p
  | d + 1, p => if f p c = Cx.zero then piv f c d (p + 1) else p
theorem piv_spec (f : Nat → Nat → Cx) (c : Nat) : ∀ d a, a ≤ piv f c d a ∧ piv f c d a ≤ a + d ∧ (∀ q, a ≤ q → q < piv f c d a → f q c = Cx.zero) ∧ (piv f c d a < a + d → f (piv f c d a) c ≠ Cx.zero) := by
  intro d
  induction d with
  | zero => intro a; exact ⟨Nat.le_refl _, Nat.le_refl _, fun q h1 h2 => absurd h1 (Nat.not_le_of_lt h2), fun h => absurd h (Nat.lt_irrefl _)⟩
  | succ d ih =>
    intro a
    unfold piv
    by_cases h : f a c = Cx.zero
    · rw [if_pos h]
      obtain ⟨h1, h2, h3, h4⟩ := ih (a + 1)
      refine ⟨by omega, by omega, fun q k1 k2 => ?_, fun k => h4 (by omega)⟩
      by_cases e : q = a
      · rw [e]; exact h
      · exact h3 q (by omega) k2
    · rw [if_neg h]
      exact ⟨Nat.le_refl _, by omega, fun q h1 h2 => absurd h1 (Nat.not_le_of_lt h2), fun _ => h⟩
theorem piv_eq {f : Nat → Nat → Cx} {c d a p : Nat} (h1 : a ≤ p) (h2 : p ≤ a + d) (h3 : ∀ q, a ≤ q → q < p → f q c = Cx.zero) (h4 : p < a + d → f p c ≠ Cx.zero) : piv f c d a = p := by
  obtain ⟨k1, k2, k3, k4⟩ := piv_spec f c d a
  by_cases e : piv f c d a < p
  · exact absurd (h3 _ k1 e) (k4 (by omega))
  · by_cases e2 : p < piv f c d a
    · exact absurd (k3 _ h1 e2) (h4 (by omega))
    · omega
/-- The elimination of the d columns from c on: exchanges, the column at which it stops, the matrix. -/
def elimF : Nat → Nat → Nat → (Nat → Nat → Cx) → Nat × Int × (Nat → Nat → Cx)
  | 0, _, s, f => (s, -1, f)
  | d + 1, c, s, f => if piv f c (d + 1) c = c + (d + 1) then (s, (c : Int), f) else elimF d (c + 1) (if piv f c (d + 1) c = c then s else s + 1) (low c (swp (piv f c (d + 1) c) c f))
theorem elim_stop {d c s : Nat} {f : Nat → Nat → Cx} (hd : 0 < d) (h : piv f c d c = c + d) : elimF d c s f = (s, (c : Int), f) := by
  obtain ⟨e, rfl⟩ : ∃ e, d = e + 1 := ⟨d - 1, by omega⟩
  unfold elimF
  rw [if_pos h]
theorem elim_next {d c s p : Nat} {f : Nat → Nat → Cx} (h : piv f c d c = p) (hp : p < c + d) : elimF d c s f = elimF (d - 1) (c + 1) (if p = c then s else s + 1) (low c (swp p c f)) := by
  obtain ⟨e, rfl⟩ : ∃ e, d = e + 1 := ⟨d - 1, by have := (piv_spec f c d c).1; omega⟩
  rw [elimF, if_neg (by omega), h]
  rfl
/-- Sizes behind c rounds. -/
def bd (K : Nat) : Nat → Nat
  | 0 => K
  | c + 1 => 6 * bd K c + 4
theorem bd_le (K : Nat) : ∀ c, K ≤ bd K c := by
  intro c
  induction c with
  | zero => exact Nat.le_refl _
  | succ c ih => show K ≤ 6 * bd K c + 4; omega
theorem bd_mono (K : Nat) : ∀ c d, c ≤ d → bd K c ≤ bd K d := by
  intro c d h
  induction d with
  | zero => rw [Nat.le_zero.1 h]; exact Nat.le_refl _
  | succ d ih =>
    by_cases e : c = d + 1
    · rw [e]; exact Nat.le_refl _
    · have := ih (by omega); show bd K c ≤ 6 * bd K d + 4; omega
theorem sz_lowF {K c i k : Nat} {f : Nat → Nat → Cx} (hK : 1 ≤ K) (h0 : f c c ≠ Cx.zero) (h1 : sz K (f i k)) (h2 : sz K (f i c)) (h3 : sz K (f c c)) (h4 : sz K (f c k)) : sz (6 * K + 4) (lowF c f i k) :=
  (sz_sub2 h1 (sz_mul2 (sz_div2 hK h2 h3 h0) h4)).mono (by omega)
theorem sz_low {K c n m : Nat} {f : Nat → Nat → Cx} (hK : 1 ≤ K) (hc : c < n) (hm : n ≤ m) (h0 : f c c ≠ Cx.zero) (h : ∀ i k, i < n → k < m → sz K (f i k)) : ∀ i k, i < n → k < m → sz (6 * K + 4) (low c f i k) := by
  intro i k hi hk
  unfold low
  split
  · exact sz_lowF hK h0 (h i k hi hk) (h i c hi (by omega)) (h c c hc (by omega)) (h c k hc hk)
  · exact (h i k hi hk).mono (by omega)
theorem sz_swp {K p c n m : Nat} {f : Nat → Nat → Cx} (hp : p < n) (hc : c < n) (h : ∀ i k, i < n → k < m → sz K (f i k)) : ∀ i k, i < n → k < m → sz K (swp p c f i k) := by
  intro i k hi hk
  unfold swp
  split
  · exact h c k hc hk
  · split
    · exact h p k hp hk
    · exact h i k hi hk
theorem swp_piv {p c : Nat} {f : Nat → Nat → Cx} : swp p c f c c = f p c := by
  unfold swp
  by_cases e : c = p
  · rw [if_pos e, e]
  · rw [if_neg e, if_pos rfl]
end Go.Proofs.Ytdpjknjlhchmcaa

namespace Go.Proofs.Ytdpjknjlhchmcaa
open Go.RowKit Pl
set_option linter.unusedVariables false
set_option linter.unusedSimpArgs false
/-- The sum of the first j products of row i and column k. -/
def dotC (f g : Nat → Nat → Cx) (i k : Nat) : Nat → Cx
  | 0 => Cx.zero
  | j + 1 => (dotC f g i k j).add ((f i j).mul (g j k))
theorem zero_add_c (x : Cx) : Cx.zero.add x = x := by
  cases x; simp [Cx.zero, Cx.add, Rat.zero_add]
end Go.Proofs.Ytdpjknjlhchmcaa

namespace Go.Proofs.Ytdpjknjlhchmcaa
open Go.RowKit Pl
set_option linter.unusedVariables false
set_option linter.unusedSimpArgs false
/-- A minor of two rows. -/
def m2 (A B : Nat → Cx) (i j : Nat) : Cx := ((A i).mul (B j)).sub ((A j).mul (B i))
/-- The determinant of four rows. -/
def D4 (A B C D : Nat → Cx) : Cx :=
  ((((((m2 A B 0 1).mul (m2 C D 2 3)).sub ((m2 A B 0 2).mul (m2 C D 1 3))).add ((m2 A B 0 3).mul (m2 C D 1 2))).add ((m2 A B 1 2).mul (m2 C D 0 3))).sub ((m2 A B 1 3).mul (m2 C D 0 2))).add ((m2 A B 2 3).mul (m2 C D 0 1))
theorem neg_neg_c (x : Cx) : x.neg.neg = x := by
  refine Cx.ext' ?_ ?_ <;> simp only [Cx.neg] <;> grind
theorem swp_comm (p c : Nat) (f : Nat → Nat → Cx) : swp p c f = swp c p f := by
  funext i k
  unfold swp
  by_cases h : i = p <;> by_cases h2 : i = c
  · rw [if_pos h, if_pos h2, ← h, ← h2]
  · rw [if_pos h, if_neg h2, if_pos h]
  · rw [if_neg h, if_pos h2, if_pos h2]
  · rw [if_neg h, if_neg h2, if_neg h2, if_neg h]
theorem sub_zero_c (x t : Cx) : x.sub (t.mul Cx.zero) = x := by
  refine Cx.ext' ?_ ?_ <;> simp only [Cx.add, Cx.sub, Cx.neg, Cx.mul, Cx.zero] <;> grind
/-- Multiples of row c are taken from all rows (t c = 0). -/
def rows (c : Nat) (t : Nat → Cx) (f : Nat → Nat → Cx) : Nat → Nat → Cx := fun i k => (f i k).sub ((t i).mul (f c k))
theorem zero_mul_c (x : Cx) : Cx.zero.mul x = Cx.zero := by
  refine Cx.ext' ?_ ?_ <;> simp only [Cx.mul, Cx.zero] <;> grind
theorem sub_zero_l (x y : Cx) : x.sub (Cx.zero.mul y) = x := by
  refine Cx.ext' ?_ ?_ <;> simp only [Cx.add, Cx.sub, Cx.neg, Cx.mul, Cx.zero] <;> grind
end Go.Proofs.Ytdpjknjlhchmcaa

namespace Go.Proofs.Ytdpjknjlhchmcaa
open Go.RowKit Pl
set_option linter.unusedVariables false
set_option linter.unusedSimpArgs false
theorem div_mul_c (x : Cx) {y : Cx} (h : y ≠ Cx.zero) : (x.div y).mul y = x := of_decide_eq_true (la8 x h)
theorem sub_self_c (x : Cx) : x.sub x = Cx.zero := by
  refine Cx.ext' ?_ ?_ <;> simp only [Cx.add, Cx.sub, Cx.neg, Cx.zero] <;> grind
theorem clear_c (x : Cx) {y : Cx} (h : y ≠ Cx.zero) : x.sub ((x.div y).mul y) = Cx.zero := by rw [div_mul_c x h, sub_self_c]
/-- Below row r, column c is cleared. -/
def facs (r c : Nat) (f : Nat → Nat → Cx) : Nat → Cx := fun i => if r < i then (f i c).div (f r c) else Cx.zero
section
variable {n : Nat} {Q : (Nat → Nat → Cx) → Prop}
end
theorem mul_one_c (x : Cx) : x.mul (Cx.ofInt 1) = x := by
  refine Cx.ext' ?_ ?_ <;> simp only [Cx.mul, Cx.ofInt] <;> grind
theorem mul_zero_c (x : Cx) : x.mul Cx.zero = Cx.zero := by
  refine Cx.ext' ?_ ?_ <;> simp only [Cx.mul, Cx.zero] <;> grind
theorem one_mul_c (x : Cx) : (Cx.ofInt 1).mul x = x := by
  refine Cx.ext' ?_ ?_ <;> simp only [Cx.mul, Cx.ofInt] <;> grind
theorem add_zero_c (x : Cx) : x.add Cx.zero = x := by
  refine Cx.ext' ?_ ?_ <;> simp only [Cx.add, Cx.zero] <;> grind
theorem mul_assoc_c (x y z : Cx) : (x.mul y).mul z = x.mul (y.mul z) := of_decide_eq_true (la4 x y z)
theorem dot_row {f f' g : Nat → Nat → Cx} {i i' : Nat} (h : f i = f' i') (k : Nat) : ∀ j, dotC f g i k j = dotC f' g i' k j := by
  intro j
  induction j with
  | zero => rfl
  | succ j ih => simp only [dotC, ih, h]
theorem dot_zero {f g : Nat → Nat → Cx} {i k : Nat} : ∀ j, (∀ l, l < j → f i l = Cx.zero) → dotC f g i k j = Cx.zero := by
  intro j
  induction j with
  | zero => intro _; rfl
  | succ j ih => intro h; simp only [dotC]; rw [ih fun l hl => h l (by omega), h j (by omega), zero_mul_c, add_zero_c]
theorem dot_one {f g : Nat → Nat → Cx} {i k n : Nat} (h : ∀ l, l < n → i ≠ l → f i l = Cx.zero) : ∀ j, j ≤ n → dotC f g i k j = if i < j then (f i i).mul (g i k) else Cx.zero := by
  intro j
  induction j with
  | zero => intro _; rw [if_neg (by omega)]; rfl
  | succ j ih =>
    intro hj
    simp only [dotC]
    rw [ih (by omega)]
    by_cases e : i = j
    · subst e; rw [if_neg (by omega), if_pos (by omega), zero_add_c]
    · rw [h j (by omega) e, zero_mul_c, add_zero_c]
      by_cases e2 : i < j
      · rw [if_pos e2, if_pos (by omega)]
      · rw [if_neg e2, if_neg (by omega)]
end Go.Proofs.Ytdpjknjlhchmcaa

namespace Go.Proofs.Ytdpjknjlhchmcaa
open Go.RowKit Pl
set_option linter.unusedVariables false
set_option linter.unusedSimpArgs false
/-- Zeros below the diagonal in the first c columns. -/
def clr (c : Nat) (f : Nat → Nat → Cx) : Nat → Nat → Cx := fun i k => if k < c ∧ k < i then Cx.zero else f i k
/-- The product of the diagonal. -/
def dgp (f : Nat → Nat → Cx) : Nat → Cx
  | 0 => f 0 0
  | j + 1 => (dgp f j).mul (f (j + 1) (j + 1))
def sgn (s : Nat) (x : Cx) : Cx := if s % 2 = 1 then x.neg else x
/-- The determinant that an elimination yields. -/
def detV (n : Nat) (r : Nat × Int × (Nat → Nat → Cx)) : Cx := if 0 ≤ r.2.1 then Cx.zero else if n = 0 then Cx.ofInt 1 else sgn r.1 (dgp r.2.2 (n - 1))
def detF (n : Nat) (f : Nat → Nat → Cx) : Cx := detV n (elimF n 0 0 f)
theorem clr_lo {c i k : Nat} {f : Nat → Nat → Cx} (h : k < c) (h2 : k < i) : clr c f i k = Cx.zero := if_pos ⟨h, h2⟩
theorem clr_hi {c i k : Nat} {f : Nat → Nat → Cx} (h : ¬ (k < c ∧ k < i)) : clr c f i k = f i k := if_neg h
theorem clr_low {n c : Nat} {g : Nat → Nat → Cx} (hc : c < n) (h0 : g c c ≠ Cx.zero) : ∀ i k, i < n → k < n → clr (c + 1) (low c g) i k = rows c (facs c c (clr c g)) (clr c g) i k := by
  intro i k hi hk
  have e1 : ∀ k, clr c g c k = if k < c then Cx.zero else g c k := by
    intro k
    unfold clr
    by_cases h : k < c
    · rw [if_pos ⟨h, h⟩, if_pos h]
    · rw [if_neg (fun e => h e.1), if_neg h]
  have e2 : clr c g c c = g c c := by rw [e1, if_neg (Nat.lt_irrefl c)]
  have e3 : clr c g i c = g i c := if_neg (fun e => Nat.lt_irrefl c e.1)
  unfold rows facs
  rw [e2, e1 k, e3]
  by_cases h1 : c < i
  · rw [if_pos h1]
    by_cases h2 : k < c
    · rw [if_pos h2, sub_zero_c]
      unfold clr
      rw [if_pos ⟨by omega, by omega⟩, if_pos ⟨h2, by omega⟩]
    · rw [if_neg h2]
      by_cases h3 : k = c
      · subst h3
        rw [e3, clear_c _ h0]
        exact if_pos ⟨by omega, h1⟩
      · rw [clr_hi (by omega), clr_hi (f := g) (i := i) (k := k) (by omega)]
        exact if_pos ⟨h1, by omega⟩
  · rw [if_neg h1, sub_zero_l]
    by_cases h2 : k < c + 1 ∧ k < i
    · rw [clr_lo h2.1 h2.2, clr_lo (by omega) h2.2]
    · rw [clr_hi h2, clr_hi (by omega)]
      exact if_neg (fun e => h1 e.1)
theorem clr_swp {p c : Nat} {f : Nat → Nat → Cx} (hp : c ≤ p) : clr c (swp p c f) = swp p c (clr c f) := by
  funext i k
  by_cases h2 : k < c
  · by_cases h1 : i = p
    · rw [clr_lo h2 (by omega)]
      unfold swp
      rw [if_pos h1, clr_lo h2 h2]
    · by_cases h3 : i = c
      · rw [clr_lo h2 (by omega)]
        unfold swp
        rw [if_neg h1, if_pos h3, clr_lo h2 (by omega)]
      · unfold swp
        rw [if_neg h1, if_neg h3]
        unfold clr
        simp only [if_neg h1, if_neg h3]
  · rw [clr_hi (by omega)]
    unfold swp
    rw [clr_hi (by omega), clr_hi (by omega), clr_hi (by omega)]
end Go.Proofs.Ytdpjknjlhchmcaa

namespace Go.Proofs.Ytdpjknjlhchmcaa
open Go.RowKit Pl
set_option linter.unusedVariables false
set_option linter.unusedSimpArgs false
theorem elim_sz {n m K0 : Nat} (hnm : n ≤ m) (hK : 1 ≤ K0) : ∀ d c s f, c + d = n → (∀ i k, i < n → k < m → sz (bd K0 c) (f i k)) → ∀ i k, i < n → k < m → sz (bd K0 n) ((elimF d c s f).2.2 i k) := by
  intro d
  induction d with
  | zero => intro c s f e h i k hi hk; obtain rfl : c = n := by omega
            exact h i k hi hk
  | succ d ih =>
    intro c s f e h
    obtain ⟨p1, p2, p3, p4⟩ := piv_spec f c (d + 1) c
    by_cases hp : piv f c (d + 1) c = c + (d + 1)
    · rw [elim_stop (by omega) hp]
      intro i k hi hk
      exact (h i k hi hk).mono (bd_mono K0 c n (by omega))
    · rw [elim_next rfl (by omega)]
      refine ih _ _ _ (by omega) ?_
      have h1 := p4 (by omega)
      rw [← swp_piv (p := piv f c (d + 1) c) (c := c) (f := f)] at h1
      exact sz_low (Nat.le_trans hK (bd_le K0 c)) (by omega) hnm h1 (sz_swp (by omega) (by omega) h)
/-- Where it stops, nothing is left in the column. -/
theorem elim_left {n : Nat} : ∀ d c s f, c + d = n → 0 ≤ (elimF d c s f).2.1 → ∃ t : Nat, (elimF d c s f).2.1 = (t : Int) ∧ t < n ∧ ∀ i, t ≤ i → i < n → (elimF d c s f).2.2 i t = Cx.zero := by
  intro d
  induction d with
  | zero => intro c s f e h
            have : (0 : Int) ≤ -1 := h
            omega
  | succ d ih =>
    intro c s f e h
    obtain ⟨p1, p2, p3, p4⟩ := piv_spec f c (d + 1) c
    by_cases hp : piv f c (d + 1) c = c + (d + 1)
    · rw [elim_stop (by omega) hp]
      exact ⟨c, rfl, by omega, fun i h1 h2 => p3 i h1 (by omega)⟩
    · rw [elim_next rfl (by omega)] at h ⊢
      exact ih _ _ _ (by omega) h
theorem elim_vals {n : Nat} : ∀ d c s f, c + d = n → (elimF d c s f).2.1 = -1 ∨ 0 ≤ (elimF d c s f).2.1 := by
  intro d
  induction d with
  | zero => intro c s f e; exact .inl rfl
  | succ d ih =>
    intro c s f e
    by_cases hp : piv f c (d + 1) c = c + (d + 1)
    · rw [elim_stop (by omega) hp]; exact .inr (Int.natCast_nonneg c)
    · rw [elim_next rfl (by have := (piv_spec f c (d + 1) c).2.1; omega)]; exact ih _ _ _ (by omega)
/-- Where it does not stop, the diagonal has no zero. -/
theorem elim_diag {n : Nat} : ∀ d c s f, c + d = n → (∀ i, i < c → f i i ≠ Cx.zero) → (elimF d c s f).2.1 = -1 → ∀ i, i < n → (elimF d c s f).2.2 i i ≠ Cx.zero := by
  intro d
  induction d with
  | zero => intro c s f e h _ i hi; obtain rfl : c = n := by omega
            exact h i hi
  | succ d ih =>
    intro c s f e h hs
    obtain ⟨p1, p2, p3, p4⟩ := piv_spec f c (d + 1) c
    by_cases hp : piv f c (d + 1) c = c + (d + 1)
    · rw [elim_stop (by omega) hp] at hs; simp only at hs; omega
    · rw [elim_next rfl (by omega)] at hs ⊢
      refine ih _ _ _ (by omega) (fun i hi => ?_) hs
      unfold low
      rw [if_neg (by omega)]
      by_cases e1 : i = c
      · subst e1; rw [swp_piv]; exact p4 (by omega)
      · unfold swp
        rw [if_neg (by omega), if_neg e1]
        exact h i (by omega)
theorem sz_dgp {n B : Nat} {f : Nat → Nat → Cx} (h : ∀ i, i < n → sz B (f i i)) : ∀ j, j < n → sz ((j + 1) * (B + 1)) (dgp f j) := by
  intro j
  induction j with
  | zero => intro hj; exact (h 0 hj).mono (by omega)
  | succ j ih =>
    intro hj
    exact (sz_mul2 (ih (by omega)) (h (j + 1) hj)).mono (by rw [Nat.succ_mul (j + 1)]; omega)
/-- The size of a determinant. -/
theorem sz_detF {n K0 : Nat} {f : Nat → Nat → Cx} (hn : n ≤ 5) (hK : 1 ≤ K0) (hS : ∀ i k, i < n → k < n → sz K0 (f i k)) : sz (5 * (bd K0 n + 1)) (detF n f) := by
  have h := elim_sz (Nat.le_refl n) hK n 0 0 f (by omega) hS
  have hb := bd_le K0 n
  unfold detF detV
  generalize elimF n 0 0 f = R at *
  split
  · exact sz_int0.mono (by omega)
  · split
    · exact (sz_int (n := 1) (K := 1) (by show ln 1 ≤ 1; rw [ln_one]; omega) (by omega)).mono (by omega)
    · have h2 := (sz_dgp (n := n) (fun i hi => h i i hi hi) (n - 1) (by omega)).mono (show (n - 1 + 1) * (bd K0 n + 1) ≤ 5 * (bd K0 n + 1) from Nat.mul_le_mul_right _ (by omega))
      unfold sgn
      split
      · exact sz_neg h2
      · exact h2
theorem elim_swaps {n : Nat} : ∀ d c s f, c + d = n → s ≤ c → (elimF d c s f).1 ≤ n := by
  intro d
  induction d with
  | zero => intro c s f e h; show s ≤ n; omega
  | succ d ih =>
    intro c s f e h
    by_cases hp : piv f c (d + 1) c = c + (d + 1)
    · rw [elim_stop (by omega) hp]; show s ≤ n; omega
    · rw [elim_next rfl (by have := (piv_spec f c (d + 1) c).2.1; omega)]
      exact ih _ _ _ (by omega) (by split <;> omega)
end Go.Proofs.Ytdpjknjlhchmcaa

namespace Go.Proofs.Ytdpjknjlhchmcaa
open Go.RowKit Pl
set_option linter.unusedVariables false
set_option linter.unusedSimpArgs false
/-- The sum of the first j products of row i with a vector. -/
def rsum (f : Nat → Nat → Cx) (x : Nat → Cx) (i : Nat) : Nat → Cx
  | 0 => Cx.zero
  | j + 1 => (rsum f x i j).add ((f i j).mul (x j))
/-- x solves the n equations; the right-hand side stands in column n. -/
def Sol (n : Nat) (f : Nat → Nat → Cx) (x : Nat → Cx) : Prop := ∀ i, i < n → rsum f x i n = f i n
theorem rsum_row {f f' : Nat → Nat → Cx} {x : Nat → Cx} {i i' : Nat} : ∀ j, (∀ k, k < j → f i k = f' i' k) → rsum f x i j = rsum f' x i' j := by
  intro j
  induction j with
  | zero => intro _; rfl
  | succ j ih => intro h; simp only [rsum]; rw [ih fun k hk => h k (by omega), h j (by omega)]
theorem Sol.congr {n : Nat} {f g : Nat → Nat → Cx} {x : Nat → Cx} (h : Sol n f x) (e : ∀ i k, i < n → k < n + 1 → g i k = f i k) : Sol n g x := by
  intro i hi
  rw [e i n hi (by omega), ← h i hi]
  exact rsum_row n fun k hk => e i k hi (by omega)
theorem Sol.swp {n p c : Nat} {f : Nat → Nat → Cx} {x : Nat → Cx} (hp : p < n) (hc : c < n) (h : Sol n f x) : Sol n (swp p c f) x := by
  intro i hi
  by_cases h1 : i = p
  · have e : ∀ k, Proofs.Ytdpjknjlhchmcaa.swp p c f i k = f c k := fun k => if_pos h1
    rw [e, ← h c hc]; exact rsum_row n fun k _ => e k
  · by_cases h2 : i = c
    · have e : ∀ k, Proofs.Ytdpjknjlhchmcaa.swp p c f i k = f p k := fun k => by unfold Proofs.Ytdpjknjlhchmcaa.swp; rw [if_neg h1, if_pos h2]
      rw [e, ← h p hp]; exact rsum_row n fun k _ => e k
    · have e : ∀ k, Proofs.Ytdpjknjlhchmcaa.swp p c f i k = f i k := fun k => by unfold Proofs.Ytdpjknjlhchmcaa.swp; rw [if_neg h1, if_neg h2]
      rw [e, ← h i hi]; exact rsum_row n fun k _ => e k
theorem swp_swp (p c : Nat) (f : Nat → Nat → Cx) : swp p c (swp p c f) = f := by
  funext i k
  unfold swp
  by_cases h1 : i = p
  · rw [if_pos h1]
    by_cases h2 : c = p
    · rw [if_pos h2, h1, h2]
    · rw [if_neg h2, if_pos rfl, h1]
  · rw [if_neg h1]
    by_cases h2 : i = c
    · rw [if_pos h2, if_pos rfl, h2]
    · rw [if_neg h2, if_neg h1, if_neg h2]
theorem Sol.unswp {n p c : Nat} {f : Nat → Nat → Cx} {x : Nat → Cx} (hp : p < n) (hc : c < n) (h : Sol n (Proofs.Ytdpjknjlhchmcaa.swp p c f) x) : Sol n f x := by
  have := h.swp hp hc
  rwa [swp_swp] at this
theorem rsum_rows {f : Nat → Nat → Cx} {c : Nat} {t : Nat → Cx} {x : Nat → Cx} (i : Nat) : ∀ j, rsum (rows c t f) x i j = (rsum f x i j).sub ((t i).mul (rsum f x c j)) := by
  intro j
  induction j with
  | zero => simp only [rsum]; rw [sub_zero_c]
  | succ j ih =>
    simp only [rsum]
    rw [ih]
    unfold rows
    refine Cx.ext' ?_ ?_ <;> simp only [Cx.add, Cx.sub, Cx.neg, Cx.mul] <;> grind
theorem Sol.rows {n c : Nat} {f : Nat → Nat → Cx} {t : Nat → Cx} {x : Nat → Cx} (hc : c < n) (h : Sol n f x) : Sol n (rows c t f) x := by
  intro i hi
  rw [rsum_rows, h i hi, h c hc]
  rfl
theorem sub_cancel {a b t u v : Cx} (h : a.sub (t.mul u) = b.sub (t.mul v)) (e : u = v) : a = b := by
  subst e
  have h1 := congrArg Cx.re h
  have h2 := congrArg Cx.im h
  simp only [Cx.add, Cx.sub, Cx.neg, Cx.mul] at h1 h2
  refine Cx.ext' ?_ ?_ <;> grind
theorem Sol.unrows {n c : Nat} {f : Nat → Nat → Cx} {t : Nat → Cx} {x : Nat → Cx} (hc : c < n) (ht : t c = Cx.zero) (h : Sol n (Proofs.Ytdpjknjlhchmcaa.rows c t f) x) : Sol n f x := by
  have e : rsum f x c n = f c n := by
    have := h c hc
    rw [rsum_rows, ht, sub_zero_l] at this
    rw [this]
    unfold Proofs.Ytdpjknjlhchmcaa.rows
    rw [ht, sub_zero_l]
  intro i hi
  have := h i hi
  rw [rsum_rows] at this
  exact sub_cancel this e
/-- The solutions stay what they are. -/
theorem elim_sol {n : Nat} : ∀ d c s f x, c + d = n → (elimF d c s f).2.1 = -1 → (Sol n (clr c f) x ↔ Sol n (clr n (elimF d c s f).2.2) x) := by
  intro d
  induction d with
  | zero => intro c s f x e _; obtain rfl : c = n := by omega
            exact Iff.rfl
  | succ d ih =>
    intro c s f x e hs
    obtain ⟨p1, p2, p3, p4⟩ := piv_spec f c (d + 1) c
    by_cases hp : piv f c (d + 1) c = c + (d + 1)
    · rw [elim_stop (by omega) hp] at hs; simp only at hs; omega
    · have hlt : piv f c (d + 1) c < c + (d + 1) := by omega
      rw [elim_next rfl hlt] at hs ⊢
      generalize piv f c (d + 1) c = p at *
      have h1 := p4 hlt
      rw [← swp_piv (p := p) (c := c) (f := f)] at h1
      rw [Nat.add_sub_cancel] at hs ⊢
      rw [← ih _ _ _ x (by omega) hs]
      have hcl := fun i k (hi : i < n) (hk : k < n + 1) => clr_low (n := n + 1) (g := swp p c f) (by omega) h1 i k (by omega) hk
      have ht : facs c c (clr c (swp p c f)) c = Cx.zero := if_neg (by omega)
      constructor
      · intro h
        refine Sol.congr (Sol.rows (t := facs c c (clr c (swp p c f))) (by omega) ?_) hcl
        rw [clr_swp p1]
        exact h.swp (by omega) (by omega)
      · intro h
        have h2 : Sol n (rows c (facs c c (clr c (swp p c f))) (clr c (swp p c f))) x := h.congr fun i k hi hk => (hcl i k hi hk).symm
        have h3 := Sol.unrows (by omega) ht h2
        rw [clr_swp p1] at h3
        exact h3.unswp (by omega) (by omega)
/-- Back substitution: what is left of row i behind the first j of the columns i + 1, .. -/
def bsub (f : Nat → Nat → Cx) (x : Nat → Cx) (n i : Nat) : Nat → Cx
  | 0 => f i n
  | j + 1 => (bsub f x n i j).sub ((f i (i + 1 + j)).mul (x (i + 1 + j)))
/-- .. the last d unknowns. -/
def back (f : Nat → Nat → Cx) (n : Nat) : Nat → Nat → Cx
  | 0 => fun _ => Cx.zero
  | d + 1 => fun i => if i = n - 1 - d then (bsub f (back f n d) n i d).div (f i i) else back f n d i
theorem back_keep {f : Nat → Nat → Cx} {n i : Nat} : ∀ d e, d + e ≤ n → n - d ≤ i → i < n → back f n (d + e) i = back f n d i := by
  intro d e
  induction e with
  | zero => intro _ _ _; rfl
  | succ e ih =>
    intro h1 h2 h3
    show (if i = n - 1 - (d + e) then _ else _) = _
    rw [if_neg (by omega)]
    exact ih (by omega) h2 h3
theorem bsub_x {f : Nat → Nat → Cx} {x y : Nat → Cx} {n i : Nat} : ∀ j, (∀ l, l < j → x (i + 1 + l) = y (i + 1 + l)) → bsub f x n i j = bsub f y n i j := by
  intro j
  induction j with
  | zero => intro _; rfl
  | succ j ih => intro h; simp only [bsub]; rw [ih fun l hl => h l (by omega), h j (by omega)]
theorem bsub_f {f g : Nat → Nat → Cx} {x : Nat → Cx} {n i : Nat} (h : ∀ k, i ≤ k → f i k = g i k) (hi : i < n) : ∀ j, bsub f x n i j = bsub g x n i j := by
  intro j
  induction j with
  | zero => exact h n (by omega)
  | succ j ih => simp only [bsub]; rw [ih, h (i + 1 + j) (by omega)]
theorem back_f {f g : Nat → Nat → Cx} {n : Nat} (h : ∀ i k, i < n → i ≤ k → f i k = g i k) : ∀ d, d ≤ n → back f n d = back g n d := by
  intro d
  induction d with
  | zero => intro _; rfl
  | succ d ih =>
    intro hd
    funext i
    show (if i = n - 1 - d then _ else _) = (if i = n - 1 - d then _ else _)
    rw [ih (by omega)]
    by_cases e : i = n - 1 - d
    · rw [if_pos e, if_pos e, bsub_f (fun k hk => h i k (by omega) hk) (by omega), h i i (by omega) (Nat.le_refl i)]
    · rw [if_neg e, if_neg e]
theorem rsum_zero {f : Nat → Nat → Cx} {x : Nat → Cx} {i : Nat} : ∀ j, (∀ k, k < j → f i k = Cx.zero) → rsum f x i j = Cx.zero := by
  intro j
  induction j with
  | zero => intro _; rfl
  | succ j ih => intro h; simp only [rsum]; rw [ih fun k hk => h k (by omega), h j (by omega), zero_mul_c, add_zero_c]
theorem rsum_bsub {f : Nat → Nat → Cx} {x : Nat → Cx} {n i : Nat} (h : ∀ k, k < i → f i k = Cx.zero) : ∀ j, (rsum f x i (i + 1 + j)).add (bsub f x n i j) = ((f i i).mul (x i)).add (f i n) := by
  intro j
  induction j with
  | zero => show ((rsum f x i i).add ((f i i).mul (x i))).add (f i n) = _
            rw [rsum_zero i h, zero_add_c]
  | succ j ih =>
    rw [← ih]
    show ((rsum f x i (i + 1 + j)).add ((f i (i + 1 + j)).mul (x (i + 1 + j)))).add ((bsub f x n i j).sub ((f i (i + 1 + j)).mul (x (i + 1 + j)))) = _
    refine Cx.ext' ?_ ?_ <;> simp only [Cx.add, Cx.sub, Cx.neg, Cx.mul] <;> grind
theorem add_cancel {a b c d : Cx} (h : a.add b = c.add d) (e : b = c) : a = d := by
  subst e
  have h1 := congrArg Cx.re h
  have h2 := congrArg Cx.im h
  simp only [Cx.add] at h1 h2
  refine Cx.ext' ?_ ?_ <;> grind
theorem mul_comm_c (x y : Cx) : x.mul y = y.mul x := by
  refine Cx.ext' ?_ ?_ <;> simp only [Cx.mul] <;> grind
theorem inv_mul_c {x : Cx} (h : x ≠ Cx.zero) (y : Cx) : ((Cx.ofInt 1).div x).mul (x.mul y) = y := by rw [← mul_assoc_c, div_mul_c _ h, one_mul_c]
theorem mul_left_c {x y z : Cx} (h : x ≠ Cx.zero) (e : y.mul x = x.mul z) : y = z := by
  have h1 := congrArg ((Cx.ofInt 1).div x).mul e
  rw [mul_comm_c y x, inv_mul_c h, inv_mul_c h] at h1
  exact h1
theorem mul_ne0 {x y : Cx} (hx : x ≠ Cx.zero) (hy : y ≠ Cx.zero) : x.mul y ≠ Cx.zero := by
  intro e
  have h1 := congrArg ((Cx.ofInt 1).div x).mul e
  rw [inv_mul_c hx, mul_zero_c] at h1
  exact hy h1
theorem back_at {f : Nat → Nat → Cx} {n i : Nat} (hi : i < n) : back f n n i = (bsub f (back f n n) n i (n - 1 - i)).div (f i i) := by
  have e : back f n n i = back f n (n - 1 - i + 1) i := by
    have := back_keep (f := f) (n := n) (i := i) (n - 1 - i + 1) i (by omega) (by omega) hi
    rw [show n - 1 - i + 1 + i = n by omega] at this
    exact this
  rw [e]
  show (if i = n - 1 - (n - 1 - i) then _ else _) = _
  rw [if_pos (by omega)]
  congr 1
  refine bsub_x _ fun l hl => ?_
  have := back_keep (f := f) (n := n) (i := i + 1 + l) (n - 1 - i) (i + 1) (by omega) (by omega) (by omega)
  rw [show n - 1 - i + (i + 1) = n by omega] at this
  exact this.symm
theorem back_sol {f : Nat → Nat → Cx} {n : Nat} (hz : ∀ i k, i < n → k < i → f i k = Cx.zero) (hd : ∀ i, i < n → f i i ≠ Cx.zero) : Sol n f (back f n n) := by
  intro i hi
  have h := rsum_bsub (x := back f n n) (n := n) (hz i · hi) (n - 1 - i)
  rw [show i + 1 + (n - 1 - i) = n by omega] at h
  refine add_cancel h ?_
  rw [back_at hi, mul_comm_c, div_mul_c _ (hd i hi)]
theorem back_uniq {f : Nat → Nat → Cx} {n : Nat} {y : Nat → Cx} (hz : ∀ i k, i < n → k < i → f i k = Cx.zero) (hd : ∀ i, i < n → f i i ≠ Cx.zero) (hy : Sol n f y) : ∀ j i, i < n → n - 1 - i = j → y i = back f n n i := by
  intro j
  induction j using Nat.strongRecOn with
  | _ j ih =>
    intro i hi hj
    have h := rsum_bsub (x := y) (n := n) (hz i · hi) (n - 1 - i)
    rw [show i + 1 + (n - 1 - i) = n by omega, hy i hi] at h
    have e : bsub f y n i (n - 1 - i) = (f i i).mul (y i) := by
      have h1 := congrArg Cx.re h
      have h2 := congrArg Cx.im h
      simp only [Cx.add] at h1 h2
      refine Cx.ext' ?_ ?_ <;> grind
    have e2 : bsub f (back f n n) n i (n - 1 - i) = bsub f y n i (n - 1 - i) := bsub_x _ fun l hl => (ih (n - 1 - (i + 1 + l)) (by omega) (i + 1 + l) (by omega) rfl).symm
    rw [back_at hi, e2, e]
    have h3 := div_mul_c ((f i i).mul (y i)) (hd i hi)
    exact (mul_left_c (hd i hi) (by rw [h3, mul_comm_c])).symm
/-- The elimination of a system that does not stop yields its only solution. -/
theorem solve_plain {n : Nat} {F : Nat → Nat → Cx} (h : (elimF n 0 0 F).2.1 = -1) : Sol n F (back (elimF n 0 0 F).2.2 n n) ∧ ∀ y, Sol n F y → ∀ i, i < n → y i = back (elimF n 0 0 F).2.2 n n i := by
  have hs := fun x => elim_sol (n := n) n 0 0 F x (by omega) h
  have hd := elim_diag n 0 0 F (show 0 + n = n by omega) (fun i hi => absurd hi (Nat.not_lt_zero _)) h
  have e0 : clr 0 F = F := by funext i k; exact if_neg (by omega)
  rw [e0] at hs
  generalize (elimF n 0 0 F).2.2 = g at *
  have hz : ∀ i k, i < n → k < i → clr n g i k = Cx.zero := fun i k hi hk => clr_lo (by omega) hk
  have hd2 : ∀ i, i < n → clr n g i i ≠ Cx.zero := fun i hi => by rw [clr_hi (by omega)]; exact hd i hi
  have eb : back g n n = back (clr n g) n n := back_f (fun i k hi hk => (clr_hi (c := n) (f := g) (i := i) (k := k) (by omega)).symm) n (Nat.le_refl n)
  rw [eb]
  exact ⟨(hs _).2 (back_sol hz hd2), fun y hy i hi => back_uniq hz hd2 ((hs y).1 hy) _ i hi rfl⟩
/-- The elimination of the first n columns does not depend on those behind. -/
theorem elim_congr {n : Nat} : ∀ d c s f g, c + d = n → (∀ i k, i < n → k < n → f i k = g i k) → (elimF d c s f).1 = (elimF d c s g).1 ∧ (elimF d c s f).2.1 = (elimF d c s g).2.1 := by
  intro d
  induction d with
  | zero => intro c s f g _ _; exact ⟨rfl, rfl⟩
  | succ d ih =>
    intro c s f g e h
    have hp : piv f c (d + 1) c = piv g c (d + 1) c := by
      obtain ⟨p1, p2, p3, p4⟩ := piv_spec g c (d + 1) c
      exact piv_eq p1 p2 (fun q h1 h2 => by rw [h q c (by omega) (by omega)]; exact p3 q h1 h2) (fun h1 => by rw [h _ c (by omega) (by omega)]; exact p4 h1)
    obtain ⟨p1, p2, _, _⟩ := piv_spec g c (d + 1) c
    by_cases h1 : piv g c (d + 1) c = c + (d + 1)
    · rw [elim_stop (by omega) h1, elim_stop (by omega) (hp.trans h1)]
      exact ⟨rfl, rfl⟩
    · rw [elim_next (f := g) rfl (by omega), elim_next (f := f) hp (by omega)]
      refine ih _ _ _ _ (by omega) fun i k hi hk => ?_
      have hs : ∀ i k, i < n → k < n → swp (piv g c (d + 1) c) c f i k = swp (piv g c (d + 1) c) c g i k := by
        intro i k hi hk
        unfold swp
        split
        · exact h c k (by omega) hk
        · split
          · exact h _ k (by omega) hk
          · exact h i k hi hk
      unfold low lowF
      rw [hs i k hi hk, hs i c hi (by omega), hs c c (by omega) (by omega), hs c k (by omega) hk]
end Go.Proofs.Ytdpjknjlhchmcaa

namespace Go.Proofs.Ytdpjknjlhchmcaa
open Go.RowKit Pl
set_option linter.unusedVariables false
set_option linter.unusedSimpArgs false
/-- The identity's size and entries. -/
def idn (n : Int) : Nat := if n < 0 then 0 else if 32 < n then 32 else n.toNat
def idm (i j : Nat) : Cx := if i = j then Cx.ofInt 1 else Cx.ofInt 0
end Go.Proofs.Ytdpjknjlhchmcaa

namespace Go.Proofs.Ytdpjknjlhchmcaa
open Go.RowKit Pl
set_option linter.unusedVariables false
set_option linter.unusedSimpArgs false
/-- Row r is taken from the rows below, from column c on. -/
def lowR (r c : Nat) (f : Nat → Nat → Cx) : Nat → Nat → Cx := fun i k => if r < i ∧ c ≤ k then (f i k).sub (((f i c).div (f r c)).mul (f r k)) else f i k
/-- The rank: d columns are left from c on, r rows are done. -/
def rankF (n : Nat) : Nat → Nat → Nat → (Nat → Nat → Cx) → Nat
  | 0, _, r, _ => r
  | d + 1, c, r, f => if piv f c (n - r) r = n then rankF n d (c + 1) r f else rankF n d (c + 1) (r + 1) (lowR r c (swp (piv f c (n - r) r) r f))
theorem rank_skip {n d c r : Nat} {f : Nat → Nat → Cx} (hd : 0 < d) (h : piv f c (n - r) r = n) : rankF n d c r f = rankF n (d - 1) (c + 1) r f := by
  obtain ⟨e, rfl⟩ : ∃ e, d = e + 1 := ⟨d - 1, by omega⟩
  rw [rankF, if_pos h]; rfl
theorem rank_next {n d c r p : Nat} {f : Nat → Nat → Cx} (hd : 0 < d) (h : piv f c (n - r) r = p) (hp : p ≠ n) : rankF n d c r f = rankF n (d - 1) (c + 1) (r + 1) (lowR r c (swp p r f)) := by
  obtain ⟨e, rfl⟩ : ∃ e, d = e + 1 := ⟨d - 1, by omega⟩
  rw [rankF, if_neg (by rw [h]; exact hp), h]; rfl
theorem rank_le (n : Nat) : ∀ d c r f, rankF n d c r f ≤ r + d := by
  intro d
  induction d with
  | zero => intro c r f; exact Nat.le_refl r
  | succ d ih =>
    intro c r f
    unfold rankF
    split
    · have := ih (c + 1) r f; omega
    · have := ih (c + 1) (r + 1) (lowR r c (swp (piv f c (n - r) r) r f)); omega
theorem rank_full {n : Nat} : ∀ d c s f g, c + d = n → (∀ i k, i < n → k < n → g i k = clr c f i k) → (rankF n d c c g = n ↔ (elimF d c s f).2.1 = -1) := by
  intro d
  induction d with
  | zero => intro c s f g e _; exact ⟨fun _ => rfl, fun _ => by show c = n; omega⟩
  | succ d ih =>
    intro c s f g e h
    have hc : ∀ i, i < n → g i c = f i c := fun i hi => by rw [h i c hi (by omega)]; exact clr_hi (by omega)
    have hp : piv g c (n - c) c = piv f c (d + 1) c := by
      obtain ⟨p1, p2, p3, p4⟩ := piv_spec f c (d + 1) c
      exact piv_eq p1 (by omega) (fun q h1 h2 => by rw [hc q (by omega)]; exact p3 q h1 h2) (fun h1 => by rw [hc _ (by omega)]; exact p4 (by omega))
    obtain ⟨p1, p2, p3, p4⟩ := piv_spec f c (d + 1) c
    by_cases h1 : piv f c (d + 1) c = c + (d + 1)
    · rw [elim_stop (by omega) h1, rank_skip (by omega) (by omega)]
      have := rank_le n (d + 1 - 1) (c + 1) c g
      simp only
      omega
    · rw [elim_next rfl (by omega), rank_next (by omega) hp (by omega)]
      generalize piv f c (d + 1) c = p at *
      have h2 := p4 (by omega)
      rw [← swp_piv (p := p) (c := c) (f := f)] at h2
      refine ih _ _ _ _ (by omega) fun i k hi hk => ?_
      rw [clr_low (n := n) (by omega) h2 i k hi hk]
      have hg : ∀ i k, i < n → k < n → swp p c g i k = clr c (swp p c f) i k := by
        intro i k hi hk
        rw [clr_swp p1]
        unfold swp
        split
        · exact h c k (by omega) hk
        · split
          · exact h p k (by omega) hk
          · exact h i k hi hk
      unfold lowR rows facs
      rw [hg i k hi hk, hg i c hi (by omega), hg c c (by omega) (by omega), hg c k (by omega) hk]
      by_cases h3 : c < i
      · rw [if_pos h3]
        by_cases h4 : c ≤ k
        · rw [if_pos ⟨h3, h4⟩]
        · rw [if_neg (fun e => h4 e.2), clr_lo (c := c) (i := c) (k := k) (f := swp p c f) (by omega) (by omega), sub_zero_c]
      · rw [if_neg (fun e => h3 e.1), if_neg h3, sub_zero_l]
/-- Full rank. -/
theorem rank_iff {n : Nat} (f : Nat → Nat → Cx) : rankF n n 0 0 f = n ↔ (elimF n 0 0 f).2.1 = -1 :=
  rank_full n 0 0 f f (by omega) (fun i k _ _ => (clr_hi (c := 0) (by omega)).symm)
theorem sgn_ne0 {s : Nat} {x : Cx} (h : x ≠ Cx.zero) : sgn s x ≠ Cx.zero := by
  unfold sgn
  split
  · intro e
    have := congrArg Cx.neg e
    rw [neg_neg_c] at this
    exact h (this.trans (by rfl))
  · exact h
theorem dgp_ne0 {n : Nat} {g : Nat → Nat → Cx} (h : ∀ i, i < n → g i i ≠ Cx.zero) : ∀ j, j < n → dgp g j ≠ Cx.zero := by
  intro j
  induction j with
  | zero => intro hj; exact h 0 hj
  | succ j ih => intro hj; exact mul_ne0 (ih (by omega)) (h (j + 1) hj)
theorem one_ne0 : Cx.ofInt 1 ≠ Cx.zero := by
  intro h
  have := congrArg Cx.re h
  simp only [Cx.ofInt, Cx.zero] at this
  exact absurd this (by decide)
/-- A determinant that is not 0. -/
theorem det_iff {n : Nat} (f : Nat → Nat → Cx) : detF n f ≠ Cx.zero ↔ (elimF n 0 0 f).2.1 = -1 := by
  have hv := elim_vals n 0 0 f (show 0 + n = n by omega)
  have hd := elim_diag n 0 0 f (show 0 + n = n by omega) (fun i hi => absurd hi (Nat.not_lt_zero _))
  unfold detF detV
  generalize elimF n 0 0 f = R at *
  rcases hv with h | h
  · rw [if_neg (by omega)]
    refine ⟨fun _ => h, fun _ => ?_⟩
    by_cases h0 : n = 0
    · rw [if_pos h0]; exact one_ne0
    · rw [if_neg h0]; exact sgn_ne0 (dgp_ne0 (hd h) (n - 1) (by omega))
  · rw [if_pos h]
    exact ⟨fun e => absurd rfl e, fun e => by omega⟩
end Go.Proofs.Ytdpjknjlhchmcaa
