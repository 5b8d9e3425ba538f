/- Lists of the reference's numbers; the law's 'refList'. (Printed by lc.gen.py from LA and LB.) A number is appended to a list. Values and variables of both sides: a number of the program, a number of the reference. NumScript: what the walk wants (operations of a slice, two lists, new variables). NumScript: what a region reads, and a number appended to a list. NumScript: the walk. The statement Rows.NumScriptSaid: for every input the law returns true, and each argument reads behind the call as it read before. No condition. -/
import Derived.Test.YtgpmlhpgdalheaaGreatNS5
import Derived.Test.YtgpmlhpgdalheaaGreatNS6
import Derived.Maps.AppendAt
import Derived.Test.YtgpmlhpgdalheaaGreatNS3
import Derived.Test.YtgpmlhpgdalheaaGreatNS7
import Derived.Test.YtgpmlhpgdalheaaGreatNS4
import Derived.Deep.CutBlock
import Derived.Test.YtgpmlhpgdalheaaGreatRows
namespace Go.Proofs.YtgpmlhpgdalheaaGreat
open Go.RowKit Pl
set_option linter.unusedVariables false
set_option linter.unusedSimpArgs false
theorem Tryz.info_q : (Tryz.prog.info? 34).map (fun i => (i.zero, i.size, i.bytes)) = some (some (.agg #[.bool false, .slice none 0 0, .bool false, .slice none 0 0, .slice none 0 0]), 5, 88) := by kernel_rfl
theorem Tryz.und_qs : Tryz.prog.underlying 56 = some (.slice 34) := by kernel_rfl
/-- A number of the reference lies at the offset o of the block g. -/
def QE (w : World) (g o : Nat) (q : Cx) : Prop := ∃ A1 A2 A3 k1 k2 k3, (w.cell? ⟨g, o, none⟩ = some (.bool (sn (na q))) ∧ w.cell? ⟨g, o + 1, none⟩ = some (.slice A1 (ln (ab (na q))) k1) ∧ w.cell? ⟨g, o + 2, none⟩ = some (.bool (sn (nb q))) ∧ w.cell? ⟨g, o + 3, none⟩ = some (.slice A2 (ln (ab (nb q))) k2) ∧ w.cell? ⟨g, o + 4, none⟩ = some (.slice A3 (ln (nd q)) k3)) ∧ Num3C w A1 A2 A3 q
theorem QE.lt {w : World} {g o : Nat} {q : Cx} (h : QE w g o q) : g < w.heap.size := by
  obtain ⟨_, _, _, _, _, _, ⟨c0, _⟩, _⟩ := h
  exact World.block_lt_of_cell? w ⟨g, o, none⟩ c0
theorem QE.to {w w' : World} {g o : Nat} {q : Cx} (h : QE w g o q) (hb : Below w.heap.size w w') : QE w' g o q := by
  have l := h.lt
  obtain ⟨A1, A2, A3, k1, k2, k3, ⟨c0, c1, c2, c3, c4⟩, n⟩ := h
  exact ⟨A1, A2, A3, k1, k2, k3, ⟨keepc hb c0 l, keepc hb c1 l, keepc hb c2 l, keepc hb c3 l, keepc hb c4 l⟩, n.to hb⟩
/-- A number is stored at the offset o of the block p. -/
def set5q (w : World) (p o : Nat) (q : Cx) (A1 A2 A3 : Option Addr) (k1 k2 k3 : Nat) : World :=
  ((((w.setCell ⟨p, o, none⟩ (.bool (sn (na q)))).setCell ⟨p, o + 1, none⟩ (.slice A1 (ln (ab (na q))) k1)).setCell ⟨p, o + 2, none⟩ (.bool (sn (nb q)))).setCell ⟨p, o + 3, none⟩ (.slice A2 (ln (ab (nb q))) k2)).setCell ⟨p, o + 4, none⟩ (.slice A3 (ln (nd q)) k3)
theorem set5q_size (w : World) (p o : Nat) (q : Cx) (A1 A2 A3 : Option Addr) (k1 k2 k3 : Nat) : (set5q w p o q A1 A2 A3 k1 k2 k3).heap.size = w.heap.size := by simp [set5q, World.setCell]
theorem set5q_cell {w : World} {p o b i : Nat} {q : Cx} {A1 A2 A3 : Option Addr} {k1 k2 k3 : Nat} {v : Value} (h : w.cell? ⟨b, i, none⟩ = some v) (h1 : b ≠ p ∨ i < o ∨ o + 5 ≤ i) : (set5q w p o q A1 A2 A3 k1 k2 k3).cell? ⟨b, i, none⟩ = some v := keepo (keepo (keepo (keepo (keepo h (by omega)) (by omega)) (by omega)) (by omega)) (by omega)
theorem set5q_below {w W : World} {B p o : Nat} {q : Cx} {A1 A2 A3 : Option Addr} {k1 k2 k3 : Nat} (h : Below B w W) (hp : B ≤ p) : Below B w (set5q W p o q A1 A2 A3 k1 k2 k3) :=
  ((((h.setCell (by exact hp) _).setCell (by exact hp) _).setCell (by exact hp) _).setCell (by exact hp) _).setCell (by exact hp) _
theorem set5q_nat {w : World} {p o n : Nat} {q : Cx} {A1 A2 A3 A : Option Addr} {k1 k2 k3 : Nat} {c : Bool} (h : Nat32 w A n) (u : w.cell? ⟨p, 0, none⟩ = some (.bool c)) : Nat32 (set5q w p o q A1 A2 A3 k1 k2 k3) A n := by
  obtain ⟨e1, a1⟩ := bool_set (o := o) (v := .bool (sn (na q))) u (.inr rfl)
  obtain ⟨e2, a2⟩ := bool_set (d := false) (o := o + 1) (v := .slice A1 (ln (ab (na q))) k1) a1 (.inl (by omega))
  obtain ⟨e3, a3⟩ := bool_set (d := false) (o := o + 2) (v := .bool (sn (Pl.nb q))) a2 (.inl (by omega))
  obtain ⟨e4, a4⟩ := bool_set (d := false) (o := o + 3) (v := .slice A2 (ln (ab (Pl.nb q))) k2) a3 (.inl (by omega))
  exact nat_set (nat_set (nat_set (nat_set (nat_set h u) a1) a2) a3) a4
theorem set5q_bool {w : World} {p o : Nat} {q : Cx} {A1 A2 A3 : Option Addr} {k1 k2 k3 : Nat} {c : Bool} (u : w.cell? ⟨p, 0, none⟩ = some (.bool c)) : ∃ e, (set5q w p o q A1 A2 A3 k1 k2 k3).cell? ⟨p, 0, none⟩ = some (.bool e) := by
  obtain ⟨e1, a1⟩ := bool_set (o := o) (v := .bool (sn (na q))) u (.inr rfl)
  obtain ⟨e2, a2⟩ := bool_set (d := false) (o := o + 1) (v := .slice A1 (ln (ab (na q))) k1) a1 (.inl (by omega))
  obtain ⟨e3, a3⟩ := bool_set (d := false) (o := o + 2) (v := .bool (sn (Pl.nb q))) a2 (.inl (by omega))
  obtain ⟨e4, a4⟩ := bool_set (d := false) (o := o + 3) (v := .slice A2 (ln (ab (Pl.nb q))) k2) a3 (.inl (by omega))
  exact bool_set (d := false) (o := o + 4) (v := .slice A3 (ln (nd q)) k3) a4 (.inl (by omega))
theorem set5q_num3 {w : World} {p o : Nat} {q r : Cx} {A1 A2 A3 B1 B2 B3 : Option Addr} {k1 k2 k3 : Nat} {c : Bool} (h : Num3C w B1 B2 B3 r) (u : w.cell? ⟨p, 0, none⟩ = some (.bool c)) : Num3C (set5q w p o q A1 A2 A3 k1 k2 k3) B1 B2 B3 r := ⟨set5q_nat h.1 u, set5q_nat h.2.1 u, set5q_nat h.2.2 u⟩
theorem QE.set5q {w : World} {g p o i : Nat} {q r : Cx} {A1 A2 A3 : Option Addr} {k1 k2 k3 : Nat} {c : Bool} (h : QE w g i r) (hn : g ≠ p ∨ i + 5 ≤ o ∨ o + 5 ≤ i) (k : w.cell? ⟨p, 0, none⟩ = some (.bool c)) : QE (set5q w p o q A1 A2 A3 k1 k2 k3) g i r := by
  obtain ⟨B1, B2, B3, l1, l2, l3, ⟨c0, c1, c2, c3, c4⟩, n⟩ := h
  exact ⟨B1, B2, B3, l1, l2, l3, ⟨set5q_cell c0 (by omega), set5q_cell c1 (by omega), set5q_cell c2 (by omega), set5q_cell c3 (by omega), set5q_cell c4 (by omega)⟩, set5q_num3 n k⟩
theorem qe_set {w : World} {p o m : Nat} {T : TypeId} {F : Nat → Value} {q : Cx} {A1 A2 A3 : Option Addr} {k1 k2 k3 : Nat} {c : Bool} (hr : w.rowIs p T m F) (ho : o + 5 ≤ m) (k : w.cell? ⟨p, 0, none⟩ = some (.bool c)) (n : Num3C w A1 A2 A3 q) : QE (set5q w p o q A1 A2 A3 k1 k2 k3) p o q := by
  refine ⟨A1, A2, A3, k1, k2, k3, ?_, set5q_num3 n k⟩
  have u0 := hr.cell (i := o) (by omega)
  have u1 := hr.cell (i := o + 1) (by omega)
  have u2 := hr.cell (i := o + 2) (by omega)
  have u3 := hr.cell (i := o + 3) (by omega)
  have u4 := hr.cell (i := o + 4) (by omega)
  unfold Proofs.YtgpmlhpgdalheaaGreat.set5q
  have o0 := cell_self (u := .bool (sn (na q))) u0
  refine ⟨?_, ?_, ?_, ?_, ?_⟩
  · exact keepo (keepo (keepo (keepo o0 (by omega)) (by omega)) (by omega)) (by omega)
  · exact keepo (keepo (keepo (cell_self (keepo u1 (by omega))) (by omega)) (by omega)) (by omega)
  · exact keepo (keepo (cell_self (keepo (keepo u2 (by omega)) (by omega))) (by omega)) (by omega)
  · exact keepo (cell_self (keepo (keepo (keepo u3 (by omega)) (by omega)) (by omega))) (by omega)
  · exact cell_self (keepo (keepo (keepo (keepo u4 (by omega)) (by omega)) (by omega)) (by omega))
theorem RowB.set5q {w : World} {g p o m : Nat} {T : TypeId} {q : Cx} {A1 A2 A3 : Option Addr} {k1 k2 k3 : Nat} (h : RowB w g T m) : RowB (set5q w p o q A1 A2 A3 k1 k2 k3) g T m := by
  obtain ⟨⟨F, h⟩, c, k⟩ := h
  by_cases e : g = p
  · subst e
    refine ⟨⟨_, ((((h.set _ _).set _ _).set _ _).set _ _).set _ _⟩, set5q_bool k⟩
  · refine ⟨⟨F, ((((h.setOther (a := ⟨p, o, none⟩) e _).setOther (a := ⟨p, o + 1, none⟩) e _).setOther (a := ⟨p, o + 2, none⟩) e _).setOther (a := ⟨p, o + 3, none⟩) e _).setOther (a := ⟨p, o + 4, none⟩) e _⟩, c, set5q_cell k (.inl e)⟩
theorem mk_qs (n : Nat) (hn : n ≤ 100000) (w : World) : (Instr.makeSlice 56 (.int .i64 (n : Int)) (.int .i64 (n : Int))).run Tryz.prog w = .ok (.slice (some ⟨w.heap.size, 0, none⟩) n n) (mkN w n 34) := by
  obtain ⟨i, hi, hz, hs, hb⟩ := info_parts Tryz.info_q
  have := run_make (P := Tryz.prog) w 56 _ i _ Tryz.und_qs hi hz .i64 .i64 n n (by omega) (by omega) (by rw [hb]; omega) (by omega)
  simpa [hs, mkN, Z5, Value.cells] using this
/-- What refList hands back: a new row of numbers. -/
def RetQL (w : World) (n : Nat) (f : Nat → Cx) (e : Ending) (w' : World) : Prop := ∃ g, e = .returned (.slice (some ⟨g, 0, none⟩) n n) ∧ w.heap.size ≤ g ∧ (0 < n → RowB w' g 34 (n * 5)) ∧ (∀ i, i < n → QE w' g (i * 5) (f i)) ∧ Below w.heap.size w w'
set_option maxHeartbeats 4000000 in
theorem reflist_any (w : World) (A : Option Addr) (n c : Nat) (X Y Z : Nat → Int) (hT : Triples w A n X Y Z) (hn : n ≤ 1000) :
    Calls Tryz.prog 25 #[.slice A n c] w (RetQL w n fun i => ofv (X i) (Y i) (Z i)) := by
  have hmk := mk_qs n (by omega)
  go_enter Tryz.func25, Tryz.ntmps25
  go_wp2_with fail
  clear hmk
  have hrow := mkN_row w n 34
  have hbel := mkN_below w n 34
  have hsz := mkN_size w n 34
  generalize mkN w n 34 = W0 at *
  go_loopw [11] (fun i wr => ∃ k : Nat, k ≤ n ∧ i = .int .i64 k ∧ w.heap.size < wr.heap.size ∧ (0 < n → RowB wr w.heap.size 34 (n * 5)) ∧ (∀ j, j < k → QE wr w.heap.size (j * 5) (ofv (X j) (Y j) (Z j))) ∧ Below w.heap.size w wr) (fun i _ => n - (intOf i).toNat)
  case atStart => exact ⟨0, Nat.zero_le _, rfl, by omega, hrow, fun j hj => absurd hj (by omega), hbel⟩
  case round =>
    obtain ⟨k, hk, rfl, hsz', hrow', hpe, hbel'⟩ := hrel
    clear hrow hbel hsz
    by_cases hlt : k < n
    · obtain ⟨b, off, rfl, hl, c0, c1, c2, rx, ry, rz⟩ := hT k hlt
      have d0 := (hbel'.cell (p := ⟨b, off + k * 3, none⟩) hl).trans c0
      have d1 := (hbel'.cell (p := ⟨b, off + k * 3 + 1, none⟩) hl).trans c1
      have d2 := (hbel'.cell (p := ⟨b, off + k * 3 + 2, none⟩) hl).trans c2
      clear c0 c1 c2
      have hb2 : b < wr.heap.size := by omega
      generalize hX : X k = x at *
      generalize hY : Y k = y at *
      generalize hZ : Z k = z at *
      clear hT
      go_wp2_with fail
      refine (rof_any x y z _ rx ry rz).mono ?_
      rintro e w1 ⟨A1, A2, A3, k1, k2, k3, rfl, n1, hb⟩
      replace hb := unalloc hb
      replace hrow' := (hrow' (by omega)).to hb
      replace hpe := fun j hj => (hpe j hj).to hb
      replace hbel' := hbel'.trans (hb.mono hbel'.size)
      replace hsz' := Nat.lt_of_lt_of_le hsz' hb.size
      clear hb d0 d1 d2 hb2 hl
      have hrow2 := hrow'
      obtain ⟨⟨F, hF⟩, c1, hc1⟩ := hrow'
      have u0 := hF.cell (i := k * 5) (by omega)
      have u1 := hF.cell (i := k * 5 + 1) (by omega)
      have u2 := hF.cell (i := k * 5 + 2) (by omega)
      have u3 := hF.cell (i := k * 5 + 3) (by omega)
      have u4 := hF.cell (i := k * 5 + 4) (by omega)
      have f0 := hF.frozen (k * 5)
      have f1 := hF.frozen (k * 5 + 1)
      have f2 := hF.frozen (k * 5 + 2)
      have f3 := hF.frozen (k * 5 + 3)
      have f4 := hF.frozen (k * 5 + 4)
      have hk5 : k * 5 + 5 ≤ n * 5 := by omega
      have hp := qe_set (k1 := k1) (k2 := k2) (k3 := k3) hF hk5 hc1 n1
      clear hF
      generalize hq : ofv x y z = q at *
      go_wp2_with fail
      obtain ⟨V, hV⟩ : ∃ V : World, V = set5q w1 w.heap.size (k * 5) q A1 A2 A3 k1 k2 k3 := ⟨_, rfl⟩
      have hw : set5q w1 w.heap.size (k * 5) q A1 A2 A3 k1 k2 k3 = V := hV.symm
      unfold set5q at hw
      rw [hw]
      clear hw
      go_roundw
      case rel =>
        refine ⟨k + 1, by omega, by go_num, ?_, fun _ => ?_, fun j hj => ?_, ?_⟩
        · rw [hV, set5q_size]; exact hsz'
        · rw [hV]; exact hrow2.set5q
        · rw [hV]
          by_cases e : j = k
          · subst e; rw [hX, hY, hZ, hq]; exact hp
          · exact (hpe j (by omega)).set5q (.inr (.inl (by omega))) hc1
        · rw [hV]; exact set5q_below hbel' (Nat.le_refl _)
      case measure => simp [intOf]; omega
    · obtain rfl : k = n := by omega
      go_wp2_with fail
      go_ret
      exact ⟨_, rfl, Nat.le_refl _, hrow', hpe, hbel'⟩
end Go.Proofs.YtgpmlhpgdalheaaGreat

namespace Go.Proofs.YtgpmlhpgdalheaaGreat
open Go.RowKit Pl
set_option linter.unusedVariables false
set_option linter.unusedSimpArgs false
/-- Five cells. -/
def C5 (w : World) (g : Nat) (v0 v1 v2 v3 v4 : Value) : Prop := w.cell? ⟨g, 0, none⟩ = some v0 ∧ w.cell? ⟨g, 1, none⟩ = some v1 ∧ w.cell? ⟨g, 2, none⟩ = some v2 ∧ w.cell? ⟨g, 3, none⟩ = some v3 ∧ w.cell? ⟨g, 4, none⟩ = some v4
theorem C5.to {w w' : World} {g : Nat} {v0 v1 v2 v3 v4 : Value} (h : C5 w g v0 v1 v2 v3 v4) (hb : Below w.heap.size w w') (l : g < w.heap.size) : C5 w' g v0 v1 v2 v3 v4 :=
  ⟨keepc hb h.1 l, keepc hb h.2.1 l, keepc hb h.2.2.1 l, keepc hb h.2.2.2.1 l, keepc hb h.2.2.2.2 l⟩
-- a list grows
theorem own_cell {w : World} {B g n c size : Nat} {T : TypeId} {xs : List Value} (h : w.ownsRow B T size (.slice (some ⟨g, 0, none⟩) n c) n xs) {j : Nat} (hj : j < n * size) : w.cell? ⟨g, j, none⟩ = xs[j]? := by
  rcases h.2 with ⟨e, _⟩ | ⟨g', cap, cur, e, _, hg, hnc, _, hs, ht⟩
  · cases e
  · injection e with e1 e2 e3
    injection e1 with e1; injection e1 with e1; subst e1
    have e4 : (cur.toList.take (n * size))[j]? = xs[j]? := by rw [ht]
    rw [List.getElem?_take_of_lt hj] at e4
    rw [← e4]
    simp [World.cell?, hg]
theorem grow_nat {w w' : World} {g n : Nat} {A : Option Addr} {c : Bool} (hg : w.grownBy w' (some g)) (u : w.cell? ⟨g, 0, none⟩ = some (.bool c)) (h : Nat32 w A n) : Nat32 w' A n := by
  intro hn
  obtain ⟨b, e, hl, hc⟩ := h hn
  refine ⟨b, e, Nat.lt_of_lt_of_le hl hg.size, fun j hj => ?_⟩
  refine hg.cell (hc j hj) ?_
  intro e2
  injection e2 with e2
  subst e2
  have h0 := hc 0 (by omega)
  rw [u] at h0
  cases h0
theorem grow_num {w w' : World} {g : Nat} {q : Cx} {A1 A2 A3 : Option Addr} {c : Bool} (hg : w.grownBy w' (some g)) (u : w.cell? ⟨g, 0, none⟩ = some (.bool c)) (h : Num3 w A1 A2 A3 q) : Num3 w' A1 A2 A3 q := ⟨grow_nat hg u h.1, grow_nat hg u h.2.1, grow_nat hg u h.2.2⟩
theorem grow_numC {w w' : World} {g : Nat} {q : Cx} {A1 A2 A3 : Option Addr} {c : Bool} (hg : w.grownBy w' (some g)) (u : w.cell? ⟨g, 0, none⟩ = some (.bool c)) (h : Num3C w A1 A2 A3 q) : Num3C w' A1 A2 A3 q := ⟨grow_nat hg u h.1, grow_nat hg u h.2.1, grow_nat hg u h.2.2⟩
theorem PE.grow {w w' : World} {g b o : Nat} {q : Cx} {c : Bool} (h : PE w b o q) (hg : w.grownBy w' (some g)) (u : w.cell? ⟨g, 0, none⟩ = some (.bool c)) (hn : b ≠ g) : PE w' b o q := by
  obtain ⟨A1, A2, A3, ⟨c0, c1, c2, c3, c4⟩, n⟩ := h
  have hne : some b ≠ some g := fun e => hn (by injection e)
  exact ⟨A1, A2, A3, ⟨hg.cell c0 hne, hg.cell c1 hne, hg.cell c2 hne, hg.cell c3 hne, hg.cell c4 hne⟩, grow_num hg u n⟩
theorem QE.grow {w w' : World} {g b o : Nat} {q : Cx} {c : Bool} (h : QE w b o q) (hg : w.grownBy w' (some g)) (u : w.cell? ⟨g, 0, none⟩ = some (.bool c)) (hn : b ≠ g) : QE w' b o q := by
  obtain ⟨A1, A2, A3, k1, k2, k3, ⟨c0, c1, c2, c3, c4⟩, n⟩ := h
  have hne : some b ≠ some g := fun e => hn (by injection e)
  exact ⟨A1, A2, A3, k1, k2, k3, ⟨hg.cell c0 hne, hg.cell c1 hne, hg.cell c2 hne, hg.cell c3 hne, hg.cell c4 hne⟩, grow_numC hg u n⟩
theorem push_cells {t T : TypeId} {i : TypeInfo} {z : Value} {bytes : Nat} (ht : Tryz.prog.underlying t = some (.slice T)) (hi : Tryz.prog.info? T = some i) (hz : i.zero = some z) (hs : i.size = 5) (hb : i.bytes = bytes) (hbs : bytes ≤ 1000) (hzs : z.cells.size = 5)
    {w : World} {B g c n b : Nat} {xs : List Value} (ho : w.ownsRow B T 5 (.slice (some ⟨g, 0, none⟩) n c) n xs) (hB : B ≤ w.heap.size) (hn : n ≤ 1000) {u0 u1 u2 u3 u4 : Value} (hu : C5 w b u0 u1 u2 u3 u4) (hone : u0.oneCell' = true ∧ u1.oneCell' = true ∧ u2.oneCell' = true ∧ u3.oneCell' = true ∧ u4.oneCell' = true) :
    ∃ g2 c2 w', (Builtin.append_ #[t, t] t #[.slice (some ⟨g, 0, none⟩) n c, .slice (some ⟨b, 0, none⟩) 1 1]).run Tryz.prog w = .ok (.slice (some ⟨g2, 0, none⟩) (n + 1) c2) w' ∧ (∃ ys, w'.ownsRow B T 5 (.slice (some ⟨g2, 0, none⟩) (n + 1) c2) (n + 1) ys) ∧
      (∀ j, j < n * 5 → w'.cell? ⟨g2, j, none⟩ = w.cell? ⟨g, j, none⟩) ∧ (w'.cell? ⟨g2, n * 5, none⟩ = some u0 ∧ w'.cell? ⟨g2, n * 5 + 1, none⟩ = some u1 ∧ w'.cell? ⟨g2, n * 5 + 2, none⟩ = some u2 ∧ w'.cell? ⟨g2, n * 5 + 3, none⟩ = some u3 ∧ w'.cell? ⟨g2, n * 5 + 4, none⟩ = some u4) ∧ w.grownBy w' (some g) ∧ (g2 = g ∨ g2 = w.heap.size) ∧ B ≤ g2 := by
  obtain ⟨c0, c1, c2, c3, c4⟩ := hu
  have hnews : ∀ j u, [u0, u1, u2, u3, u4][j]? = some u → w.cell? ((⟨b, 0, none⟩ : Addr).add j) = some u := by
    intro j u hj
    rw [add_none j rfl, Nat.zero_add]
    match j, hj with
    | 0, hj => simp at hj; rw [← hj]; exact c0
    | 1, hj => simp at hj; rw [← hj]; exact c1
    | 2, hj => simp at hj; rw [← hj]; exact c2
    | 3, hj => simp at hj; rw [← hj]; exact c3
    | 4, hj => simp at hj; rw [← hj]; exact c4
    | j + 5, hj => simp at hj
  have h1 : ∀ u ∈ [u0, u1, u2, u3, u4], u.oneCell' = true := by
    obtain ⟨k0, k1, k2, k3, k4⟩ := hone
    intro u hu
    simp only [List.mem_cons, List.not_mem_nil, or_false] at hu
    rcases hu with rfl | rfl | rfl | rfl | rfl <;> assumption
  obtain ⟨v', w', hr, ho', hg, hv, hob⟩ := run_append_own_at (P := Tryz.prog) w B t t T i z 5 bytes ht hi hz hs hb hzs (by omega) (.slice (some ⟨g, 0, none⟩) n c) n xs ho ⟨b, 0, none⟩ 1 1 [u0, u1, u2, u3, u4] rfl hnews h1 (by unfold maxLen; omega) (by have : (n + 1) * bytes ≤ 1001 * 1000 := Nat.mul_le_mul (by omega) hbs; omega) hB
  rcases ho'.2 with ⟨_, h0⟩ | ⟨g2, cap, cur, rfl, hbg, _⟩
  · omega
  · have hxl := ho.1
    have hcell : ∀ j, j < (n + 1) * 5 → w'.cell? ⟨g2, j, none⟩ = (xs ++ [u0, u1, u2, u3, u4])[j]? := fun j hj => own_cell ho' hj
    have hnew : ∀ k, k < 5 → w'.cell? ⟨g2, n * 5 + k, none⟩ = [u0, u1, u2, u3, u4][k]? := by
      intro k hk
      rw [hcell _ (by omega), List.getElem?_append_right (by omega), hxl, Nat.add_sub_cancel_left]
    refine ⟨g2, cap, w', hr, ⟨_, ho'⟩, fun j hj => ?_, ⟨hnew 0 (by omega), hnew 1 (by omega), hnew 2 (by omega), hnew 3 (by omega), hnew 4 (by omega)⟩, hg, ?_, hbg⟩
    · rw [hcell j (by omega), List.getElem?_append_left (by omega), own_cell ho hj]
    · rcases hob with e | e
      · left; injection e
      · right; injection e
theorem push_P {w : World} {B g c n b : Nat} {r : Cx} {f : Nat → Cx} (ho : ∃ xs, w.ownsRow B 30 5 (.slice (some ⟨g, 0, none⟩) n c) n xs) (hp : ∀ i, i < n → PE w g (i * 5) (f i)) (hB : B ≤ w.heap.size) (hn0 : 0 < n) (hn : n ≤ 1000) (hr : PE w b 0 r) :
    ∃ g2 c2 w', (Builtin.append_ #[54, 54] 54 #[.slice (some ⟨g, 0, none⟩) n c, .slice (some ⟨b, 0, none⟩) 1 1]).run Tryz.prog w = .ok (.slice (some ⟨g2, 0, none⟩) (n + 1) c2) w' ∧ (∃ ys, w'.ownsRow B 30 5 (.slice (some ⟨g2, 0, none⟩) (n + 1) c2) (n + 1) ys) ∧
      (∀ i, i < n → PE w' g2 (i * 5) (f i)) ∧ PE w' g2 (n * 5) r ∧ w.grownBy w' (some g) ∧ (g2 = g ∨ g2 = w.heap.size) := by
  obtain ⟨i, hi, hz, hs, hb⟩ := info_parts Tryz.info_num
  obtain ⟨xs, ho⟩ := ho
  obtain ⟨A1, A2, A3, cs, nn⟩ := hr
  obtain ⟨g2, c2, w', e, h1, h2, h3, h4, h5, h6⟩ := push_cells (b := b) Tryz.und_nums hi hz hs hb (by omega) rfl ho hB hn cs ⟨rfl, rfl, rfl, rfl, rfl⟩
  have u : w.cell? ⟨g, 0, none⟩ = some (.bool (sn (na (f 0)))) := by
    obtain ⟨_, _, _, ⟨c0, _⟩, _⟩ := hp 0 hn0
    rwa [Nat.zero_mul] at c0
  refine ⟨g2, c2, w', e, h1, fun i hi => ?_, ⟨A1, A2, A3, h3, grow_num h4 u nn⟩, h4, h5⟩
  obtain ⟨B1, B2, B3, ⟨k0, k1, k2, k3, k4⟩, m⟩ := hp i hi
  exact ⟨B1, B2, B3, ⟨(h2 _ (by omega)).trans k0, (h2 _ (by omega)).trans k1, (h2 _ (by omega)).trans k2, (h2 _ (by omega)).trans k3, (h2 _ (by omega)).trans k4⟩, grow_num h4 u m⟩
theorem push_R {w : World} {B g c n b : Nat} {r : Cx} {f : Nat → Cx} (ho : ∃ xs, w.ownsRow B 34 5 (.slice (some ⟨g, 0, none⟩) n c) n xs) (hp : ∀ i, i < n → QE w g (i * 5) (f i)) (hB : B ≤ w.heap.size) (hn0 : 0 < n) (hn : n ≤ 1000) (hr : QE w b 0 r) :
    ∃ g2 c2 w', (Builtin.append_ #[56, 56] 56 #[.slice (some ⟨g, 0, none⟩) n c, .slice (some ⟨b, 0, none⟩) 1 1]).run Tryz.prog w = .ok (.slice (some ⟨g2, 0, none⟩) (n + 1) c2) w' ∧ (∃ ys, w'.ownsRow B 34 5 (.slice (some ⟨g2, 0, none⟩) (n + 1) c2) (n + 1) ys) ∧
      (∀ i, i < n → QE w' g2 (i * 5) (f i)) ∧ QE w' g2 (n * 5) r ∧ w.grownBy w' (some g) ∧ (g2 = g ∨ g2 = w.heap.size) := by
  obtain ⟨i, hi, hz, hs, hb⟩ := info_parts Tryz.info_q
  obtain ⟨xs, ho⟩ := ho
  obtain ⟨A1, A2, A3, m1, m2, m3, cs, nn⟩ := hr
  obtain ⟨g2, c2, w', e, h1, h2, h3, h4, h5, h6⟩ := push_cells (b := b) Tryz.und_qs hi hz hs hb (by omega) rfl ho hB hn cs ⟨rfl, rfl, rfl, rfl, rfl⟩
  have u : w.cell? ⟨g, 0, none⟩ = some (.bool (sn (na (f 0)))) := by
    obtain ⟨_, _, _, _, _, _, ⟨c0, _⟩, _⟩ := hp 0 hn0
    rwa [Nat.zero_mul] at c0
  refine ⟨g2, c2, w', e, h1, fun i hi => ?_, ⟨A1, A2, A3, m1, m2, m3, h3, grow_numC h4 u nn⟩, h4, h5⟩
  obtain ⟨B1, B2, B3, p1, p2, p3, ⟨k0, k1, k2, k3, k4⟩, m⟩ := hp i hi
  exact ⟨B1, B2, B3, p1, p2, p3, ⟨(h2 _ (by omega)).trans k0, (h2 _ (by omega)).trans k1, (h2 _ (by omega)).trans k2, (h2 _ (by omega)).trans k3, (h2 _ (by omega)).trans k4⟩, grow_numC h4 u m⟩
end Go.Proofs.YtgpmlhpgdalheaaGreat

namespace Go.Proofs.YtgpmlhpgdalheaaGreat
open Go.RowKit Pl
set_option linter.unusedVariables false
set_option linter.unusedSimpArgs false
/-- A slot holds a number of the reference. -/
def SlotNumC (w : World) (u : Value) (q : Cx) : Prop := ∃ A1 A2 A3 c1 c2 c3, u = .agg #[.bool (sn (na q)), .slice A1 (ln (ab (na q))) c1, .bool (sn (nb q)), .slice A2 (ln (ab (nb q))) c2, .slice A3 (ln (nd q)) c3] ∧ Num3C w A1 A2 A3 q
theorem SlotNumC.to {w w' : World} {u : Value} {q : Cx} (h : SlotNumC w u q) (hb : Below w.heap.size w w') : SlotNumC w' u q := by
  obtain ⟨A1, A2, A3, c1, c2, c3, e, h⟩ := h; exact ⟨A1, A2, A3, c1, c2, c3, e, h.to hb⟩
def Froz (w : World) (g : Nat) : Prop := w.frozen? ⟨g, 0, none⟩ = false ∧ w.frozen? ⟨g, 1, none⟩ = false ∧ w.frozen? ⟨g, 2, none⟩ = false ∧ w.frozen? ⟨g, 3, none⟩ = false ∧ w.frozen? ⟨g, 4, none⟩ = false
/-- Five cells of a variable. -/
def Var5 (w : World) (g : Nat) : Prop := g < w.heap.size ∧ (∃ c v1 v2 v3 v4, w.cell? ⟨g, 0, none⟩ = some (.bool c) ∧ w.cell? ⟨g, 1, none⟩ = some v1 ∧ w.cell? ⟨g, 2, none⟩ = some v2 ∧ w.cell? ⟨g, 3, none⟩ = some v3 ∧ w.cell? ⟨g, 4, none⟩ = some v4) ∧ Froz w g
/-- The variable holds a number of the program; of the reference. -/
def HasP (w : World) (g : Nat) (q : Cx) : Prop := g < w.heap.size ∧ (∃ A1 A2 A3, Cells5 w g q A1 A2 A3 ∧ Num3 w A1 A2 A3 q) ∧ Froz w g
def HasR (w : World) (g : Nat) (q : Cx) : Prop := g < w.heap.size ∧ (∃ A1 A2 A3 k1 k2 k3, Cells5c w g q A1 A2 A3 k1 k2 k3 ∧ Num3C w A1 A2 A3 q) ∧ Froz w g
theorem HasP.var {w : World} {g : Nat} {q : Cx} (h : HasP w g q) : Var5 w g := by
  obtain ⟨l, ⟨A1, A2, A3, ⟨c0, c1, c2, c3, c4⟩, _⟩, f⟩ := h; exact ⟨l, ⟨_, _, _, _, _, c0, c1, c2, c3, c4⟩, f⟩
theorem HasR.var {w : World} {g : Nat} {q : Cx} (h : HasR w g q) : Var5 w g := by
  obtain ⟨l, ⟨A1, A2, A3, k1, k2, k3, ⟨c0, c1, c2, c3, c4⟩, _⟩, f⟩ := h; exact ⟨l, ⟨_, _, _, _, _, c0, c1, c2, c3, c4⟩, f⟩
theorem Froz.to {w w' : World} {g : Nat} (h : Froz w g) (hb : Below w.heap.size w w') (hl : g < w.heap.size) : Froz w' g := ⟨keepf hb h.1 hl, keepf hb h.2.1 hl, keepf hb h.2.2.1 hl, keepf hb h.2.2.2.1 hl, keepf hb h.2.2.2.2 hl⟩
theorem Froz.set5 {w : World} {g p : Nat} {q : Cx} {A1 A2 A3 : Option Addr} (h : Froz w g) : Froz (set5 w p q A1 A2 A3) g := ⟨set5_frozen h.1, set5_frozen h.2.1, set5_frozen h.2.2.1, set5_frozen h.2.2.2.1, set5_frozen h.2.2.2.2⟩
theorem Froz.set5c {w : World} {g p : Nat} {q : Cx} {A1 A2 A3 : Option Addr} {k1 k2 k3 : Nat} (h : Froz w g) : Froz (set5c w p q A1 A2 A3 k1 k2 k3) g := ⟨set5c_frozen h.1, set5c_frozen h.2.1, set5c_frozen h.2.2.1, set5c_frozen h.2.2.2.1, set5c_frozen h.2.2.2.2⟩
theorem Var5.to {w w' : World} {g : Nat} (h : Var5 w g) (hb : Below w.heap.size w w') : Var5 w' g := by
  obtain ⟨l, ⟨c, v1, v2, v3, v4, c0, c1, c2, c3, c4⟩, f⟩ := h
  exact ⟨Nat.lt_of_lt_of_le l hb.size, ⟨c, v1, v2, v3, v4, keepc hb c0 l, keepc hb c1 l, keepc hb c2 l, keepc hb c3 l, keepc hb c4 l⟩, f.to hb l⟩
theorem HasP.to {w w' : World} {g : Nat} {q : Cx} (h : HasP w g q) (hb : Below w.heap.size w w') : HasP w' g q := by
  obtain ⟨l, ⟨A1, A2, A3, ⟨c0, c1, c2, c3, c4⟩, n⟩, f⟩ := h
  exact ⟨Nat.lt_of_lt_of_le l hb.size, ⟨A1, A2, A3, ⟨keepc hb c0 l, keepc hb c1 l, keepc hb c2 l, keepc hb c3 l, keepc hb c4 l⟩, n.to hb⟩, f.to hb l⟩
theorem HasR.to {w w' : World} {g : Nat} {q : Cx} (h : HasR w g q) (hb : Below w.heap.size w w') : HasR w' g q := by
  obtain ⟨l, ⟨A1, A2, A3, k1, k2, k3, ⟨c0, c1, c2, c3, c4⟩, n⟩, f⟩ := h
  exact ⟨Nat.lt_of_lt_of_le l hb.size, ⟨A1, A2, A3, k1, k2, k3, ⟨keepc hb c0 l, keepc hb c1 l, keepc hb c2 l, keepc hb c3 l, keepc hb c4 l⟩, n.to hb⟩, f.to hb l⟩
-- a store into the block p (a number of the program)
theorem set5_num3C {w : World} {p : Nat} {q r : Cx} {A1 A2 A3 B1 B2 B3 : Option Addr} {c : Bool} (h : Num3C w B1 B2 B3 r) (u : w.cell? ⟨p, 0, none⟩ = some (.bool c)) : Num3C (set5 w p q A1 A2 A3) B1 B2 B3 r := ⟨set5_nat h.1 u, set5_nat h.2.1 u, set5_nat h.2.2 u⟩
theorem set5c_num3P {w : World} {p : Nat} {q r : Cx} {A1 A2 A3 B1 B2 B3 : Option Addr} {k1 k2 k3 : Nat} {c : Bool} (h : Num3 w B1 B2 B3 r) (u : w.cell? ⟨p, 0, none⟩ = some (.bool c)) : Num3 (set5c w p q A1 A2 A3 k1 k2 k3) B1 B2 B3 r := ⟨set5c_nat h.1 u, set5c_nat h.2.1 u, set5c_nat h.2.2 u⟩
theorem SlotNumC.set5 {w : World} {u : Value} {q r : Cx} {p : Nat} {A1 A2 A3 : Option Addr} {c : Bool} (h : SlotNumC w u r) (k : w.cell? ⟨p, 0, none⟩ = some (.bool c)) : SlotNumC (set5 w p q A1 A2 A3) u r := by
  obtain ⟨B1, B2, B3, d1, d2, d3, e, h⟩ := h; exact ⟨B1, B2, B3, d1, d2, d3, e, set5_num3C h k⟩
theorem SlotNumC.set5c {w : World} {u : Value} {q r : Cx} {p : Nat} {A1 A2 A3 : Option Addr} {k1 k2 k3 : Nat} {c : Bool} (h : SlotNumC w u r) (k : w.cell? ⟨p, 0, none⟩ = some (.bool c)) : SlotNumC (set5c w p q A1 A2 A3 k1 k2 k3) u r := by
  obtain ⟨B1, B2, B3, d1, d2, d3, e, h⟩ := h; exact ⟨B1, B2, B3, d1, d2, d3, e, set5c_num3 h k⟩
theorem SlotNum.set5c {w : World} {u : Value} {q r : Cx} {p : Nat} {A1 A2 A3 : Option Addr} {k1 k2 k3 : Nat} {c : Bool} (h : SlotNum w u r) (k : w.cell? ⟨p, 0, none⟩ = some (.bool c)) : SlotNum (set5c w p q A1 A2 A3 k1 k2 k3) u r := by
  obtain ⟨B1, B2, B3, e, h⟩ := h; exact ⟨B1, B2, B3, e, set5c_num3P h k⟩
theorem HasP.set5 {w : World} {g p : Nat} {q r : Cx} {A1 A2 A3 : Option Addr} {c : Bool} (h : HasP w g r) (hn : g ≠ p) (k : w.cell? ⟨p, 0, none⟩ = some (.bool c)) : HasP (set5 w p q A1 A2 A3) g r := by
  obtain ⟨l, ⟨B1, B2, B3, ⟨c0, c1, c2, c3, c4⟩, n⟩, f⟩ := h
  exact ⟨by rw [set5_size]; exact l, ⟨B1, B2, B3, ⟨set5_cell c0 hn, set5_cell c1 hn, set5_cell c2 hn, set5_cell c3 hn, set5_cell c4 hn⟩, set5_num3 n k⟩, f.set5⟩
theorem HasP.set5c {w : World} {g p : Nat} {q r : Cx} {A1 A2 A3 : Option Addr} {k1 k2 k3 : Nat} {c : Bool} (h : HasP w g r) (hn : g ≠ p) (k : w.cell? ⟨p, 0, none⟩ = some (.bool c)) : HasP (set5c w p q A1 A2 A3 k1 k2 k3) g r := by
  obtain ⟨l, ⟨B1, B2, B3, ⟨c0, c1, c2, c3, c4⟩, n⟩, f⟩ := h
  exact ⟨by rw [set5c_size]; exact l, ⟨B1, B2, B3, ⟨set5c_cell c0 hn, set5c_cell c1 hn, set5c_cell c2 hn, set5c_cell c3 hn, set5c_cell c4 hn⟩, set5c_num3P n k⟩, f.set5c⟩
theorem HasR.set5 {w : World} {g p : Nat} {q r : Cx} {A1 A2 A3 : Option Addr} {c : Bool} (h : HasR w g r) (hn : g ≠ p) (k : w.cell? ⟨p, 0, none⟩ = some (.bool c)) : HasR (set5 w p q A1 A2 A3) g r := by
  obtain ⟨l, ⟨B1, B2, B3, d1, d2, d3, ⟨c0, c1, c2, c3, c4⟩, n⟩, f⟩ := h
  exact ⟨by rw [set5_size]; exact l, ⟨B1, B2, B3, d1, d2, d3, ⟨set5_cell c0 hn, set5_cell c1 hn, set5_cell c2 hn, set5_cell c3 hn, set5_cell c4 hn⟩, set5_num3C n k⟩, f.set5⟩
theorem HasR.set5c {w : World} {g p : Nat} {q r : Cx} {A1 A2 A3 : Option Addr} {k1 k2 k3 : Nat} {c : Bool} (h : HasR w g r) (hn : g ≠ p) (k : w.cell? ⟨p, 0, none⟩ = some (.bool c)) : HasR (set5c w p q A1 A2 A3 k1 k2 k3) g r := by
  obtain ⟨l, ⟨B1, B2, B3, d1, d2, d3, ⟨c0, c1, c2, c3, c4⟩, n⟩, f⟩ := h
  exact ⟨by rw [set5c_size]; exact l, ⟨B1, B2, B3, d1, d2, d3, ⟨set5c_cell c0 hn, set5c_cell c1 hn, set5c_cell c2 hn, set5c_cell c3 hn, set5c_cell c4 hn⟩, set5c_num3 n k⟩, f.set5c⟩
theorem Var5.set5 {w : World} {g p : Nat} {q : Cx} {A1 A2 A3 : Option Addr} (h : Var5 w g) (hn : g ≠ p) : Var5 (set5 w p q A1 A2 A3) g := by
  obtain ⟨l, ⟨c, v1, v2, v3, v4, c0, c1, c2, c3, c4⟩, f⟩ := h
  exact ⟨by rw [set5_size]; exact l, ⟨c, v1, v2, v3, v4, set5_cell c0 hn, set5_cell c1 hn, set5_cell c2 hn, set5_cell c3 hn, set5_cell c4 hn⟩, f.set5⟩
theorem Var5.set5c {w : World} {g p : Nat} {q : Cx} {A1 A2 A3 : Option Addr} {k1 k2 k3 : Nat} (h : Var5 w g) (hn : g ≠ p) : Var5 (set5c w p q A1 A2 A3 k1 k2 k3) g := by
  obtain ⟨l, ⟨c, v1, v2, v3, v4, c0, c1, c2, c3, c4⟩, f⟩ := h
  exact ⟨by rw [set5c_size]; exact l, ⟨c, v1, v2, v3, v4, set5c_cell c0 hn, set5c_cell c1 hn, set5c_cell c2 hn, set5c_cell c3 hn, set5c_cell c4 hn⟩, f.set5c⟩
theorem Var5.putP {w : World} {p : Nat} {q : Cx} {A1 A2 A3 : Option Addr} (h : Var5 w p) (hq : Num3 w A1 A2 A3 q) : HasP (Proofs.YtgpmlhpgdalheaaGreat.set5 w p q A1 A2 A3) p q := by
  obtain ⟨l, ⟨c, v1, v2, v3, v4, c0, c1, c2, c3, c4⟩, f⟩ := h
  exact ⟨by rw [set5_size]; exact l, ⟨A1, A2, A3, set5_self c0 c1 c2 c3 c4, set5_num3 hq c0⟩, f.set5⟩
theorem Var5.putR {w : World} {p : Nat} {q : Cx} {A1 A2 A3 : Option Addr} {k1 k2 k3 : Nat} (h : Var5 w p) (hq : Num3C w A1 A2 A3 q) : HasR (Proofs.YtgpmlhpgdalheaaGreat.set5c w p q A1 A2 A3 k1 k2 k3) p q := by
  obtain ⟨l, ⟨c, v1, v2, v3, v4, c0, c1, c2, c3, c4⟩, f⟩ := h
  exact ⟨by rw [set5c_size]; exact l, ⟨A1, A2, A3, k1, k2, k3, set5c_self c0 c1 c2 c3 c4, set5c_num3 hq c0⟩, f.set5c⟩
theorem Var5.new {w : World} {T : TypeId} : Var5 (w.alloc (.cells #[.bool false, .slice none 0 0, .bool false, .slice none 0 0, .slice none 0 0] T)) w.heap.size :=
  ⟨by simp, ⟨false, .slice none 0 0, .bool false, .slice none 0 0, .slice none 0 0, by go_simp, by go_simp, by go_simp, by go_simp, by go_simp⟩, by go_simp, by go_simp, by go_simp, by go_simp, by go_simp⟩
/-- What a slot points to. -/
def AtV (B : Nat) (w : World) (u : Value) : Prop := ∃ g, u = .pointer (some ⟨g, 0, none⟩) ∧ B ≤ g ∧ Var5 w g
theorem AtV.to {B : Nat} {w w' : World} {u : Value} (h : AtV B w u) (hb : Below w.heap.size w w') : AtV B w' u := by obtain ⟨g, e, h1, h2⟩ := h; exact ⟨g, e, h1, h2.to hb⟩
theorem AtV.new {B : Nat} {w : World} {T : TypeId} (hB : B ≤ w.heap.size) : AtV B (w.alloc (.cells #[.bool false, .slice none 0 0, .bool false, .slice none 0 0, .slice none 0 0] T)) (.pointer (some ⟨w.heap.size, 0, none⟩)) := ⟨_, rfl, hB, Var5.new⟩
theorem AtV.ne {B : Nat} {w : World} {u : Value} (h : AtV B w u) : u ≠ .pointer (some ⟨w.heap.size, 0, none⟩) := by
  obtain ⟨g, e, h1, h2, _⟩ := h
  intro e2; rw [e] at e2
  injection e2 with e2; injection e2 with e2; injection e2 with e2; omega
theorem AtV.set5 {B : Nat} {w : World} {u : Value} {q : Cx} {p : Nat} {A1 A2 A3 : Option Addr} (h : AtV B w u) (hn : u ≠ .pointer (some ⟨p, 0, none⟩)) : AtV B (set5 w p q A1 A2 A3) u := by
  obtain ⟨g, e, h1, h2⟩ := h; exact ⟨g, e, h1, h2.set5 (by rintro rfl; exact hn e)⟩
theorem AtV.set5c {B : Nat} {w : World} {u : Value} {q : Cx} {p : Nat} {A1 A2 A3 : Option Addr} {k1 k2 k3 : Nat} (h : AtV B w u) (hn : u ≠ .pointer (some ⟨p, 0, none⟩)) : AtV B (set5c w p q A1 A2 A3 k1 k2 k3) u := by
  obtain ⟨g, e, h1, h2⟩ := h; exact ⟨g, e, h1, h2.set5c (by rintro rfl; exact hn e)⟩
/-- A slot points to a variable that holds a number. -/
def PtP (w : World) (u : Value) (q : Cx) : Prop := ∃ g, u = .pointer (some ⟨g, 0, none⟩) ∧ HasP w g q
def PtR (w : World) (u : Value) (q : Cx) : Prop := ∃ g, u = .pointer (some ⟨g, 0, none⟩) ∧ HasR w g q
theorem PtP.to {w w' : World} {u : Value} {q : Cx} (h : PtP w u q) (hb : Below w.heap.size w w') : PtP w' u q := by obtain ⟨g, e, h⟩ := h; exact ⟨g, e, h.to hb⟩
theorem PtR.to {w w' : World} {u : Value} {q : Cx} (h : PtR w u q) (hb : Below w.heap.size w w') : PtR w' u q := by obtain ⟨g, e, h⟩ := h; exact ⟨g, e, h.to hb⟩
theorem PtP.set5 {w : World} {u : Value} {q r : Cx} {p : Nat} {A1 A2 A3 : Option Addr} {c : Bool} (h : PtP w u r) (hn : u ≠ .pointer (some ⟨p, 0, none⟩)) (k : w.cell? ⟨p, 0, none⟩ = some (.bool c)) : PtP (set5 w p q A1 A2 A3) u r := by
  obtain ⟨g, e, h⟩ := h; exact ⟨g, e, h.set5 (by rintro rfl; exact hn e) k⟩
theorem PtP.set5c {w : World} {u : Value} {q r : Cx} {p : Nat} {A1 A2 A3 : Option Addr} {k1 k2 k3 : Nat} {c : Bool} (h : PtP w u r) (hn : u ≠ .pointer (some ⟨p, 0, none⟩)) (k : w.cell? ⟨p, 0, none⟩ = some (.bool c)) : PtP (set5c w p q A1 A2 A3 k1 k2 k3) u r := by
  obtain ⟨g, e, h⟩ := h; exact ⟨g, e, h.set5c (by rintro rfl; exact hn e) k⟩
theorem PtR.set5 {w : World} {u : Value} {q r : Cx} {p : Nat} {A1 A2 A3 : Option Addr} {c : Bool} (h : PtR w u r) (hn : u ≠ .pointer (some ⟨p, 0, none⟩)) (k : w.cell? ⟨p, 0, none⟩ = some (.bool c)) : PtR (set5 w p q A1 A2 A3) u r := by
  obtain ⟨g, e, h⟩ := h; exact ⟨g, e, h.set5 (by rintro rfl; exact hn e) k⟩
theorem PtR.set5c {w : World} {u : Value} {q r : Cx} {p : Nat} {A1 A2 A3 : Option Addr} {k1 k2 k3 : Nat} {c : Bool} (h : PtR w u r) (hn : u ≠ .pointer (some ⟨p, 0, none⟩)) (k : w.cell? ⟨p, 0, none⟩ = some (.bool c)) : PtR (set5c w p q A1 A2 A3 k1 k2 k3) u r := by
  obtain ⟨g, e, h⟩ := h; exact ⟨g, e, h.set5c (by rintro rfl; exact hn e) k⟩
theorem HasP.slot {w : World} {g : Nat} {q : Cx} (h : HasP w g q) : ∃ A1 A2 A3, Cells5 w g q A1 A2 A3 ∧ Num3 w A1 A2 A3 q := h.2.1
theorem HasR.slot {w : World} {g : Nat} {q : Cx} (h : HasR w g q) : ∃ A1 A2 A3 k1 k2 k3, Cells5c w g q A1 A2 A3 k1 k2 k3 ∧ Num3C w A1 A2 A3 q := h.2.1
end Go.Proofs.YtgpmlhpgdalheaaGreat

namespace Go.Proofs.YtgpmlhpgdalheaaGreat
open Go.RowKit Pl
set_option linter.unusedVariables false
set_option linter.unusedSimpArgs false
/-- What a slice of operations holds: a byte and two uint16s each. -/
def OpsAt (w : World) (A : Option Addr) (n : Nat) (K X Y : Nat → Int) : Prop := ∀ i, i < n → ∃ b off, A = some ⟨b, off, none⟩ ∧ b < w.heap.size ∧
  w.cell? ⟨b, off + i * 3, none⟩ = some (.int .u8 (K i)) ∧ w.cell? ⟨b, off + i * 3 + 1, none⟩ = some (.int .u16 (X i)) ∧ w.cell? ⟨b, off + i * 3 + 2, none⟩ = some (.int .u16 (Y i)) ∧
  (0 ≤ K i ∧ K i < 256) ∧ (0 ≤ X i ∧ X i < 65536) ∧ (0 ≤ Y i ∧ Y i < 65536)
/-- Both lists hold the same numbers. -/
def Two (w0 w : World) (gl cl gm cm n : Nat) (f : Nat → Cx) : Prop := (∃ xs, w.ownsRow w0.heap.size 30 5 (.slice (some ⟨gl, 0, none⟩) n cl) n xs) ∧ (∃ xs, w.ownsRow w0.heap.size 34 5 (.slice (some ⟨gm, 0, none⟩) n cm) n xs) ∧
  (∀ i, i < n → PE w gl (i * 5) (f i) ∧ QE w gm (i * 5) (f i)) ∧ gl ≠ gm
theorem own_to {B : Nat} {w w' : World} {T : TypeId} {z n : Nat} {v : Value} {xs : List Value} (h : w.ownsRow B T z v n xs) (hb : Below w.heap.size w w') : w'.ownsRow B T z v n xs :=
  h.kept (row := none) ⟨hb.os, hb.tape, hb.output, hb.size, fun k hk _ => hb.block k hk⟩ (by cases v.ownBlock <;> simp)
theorem Two.to {w0 w w' : World} {gl cl gm cm n : Nat} {f : Nat → Cx} (h : Two w0 w gl cl gm cm n f) (hb : Below w.heap.size w w') : Two w0 w' gl cl gm cm n f := by
  obtain ⟨⟨xs, h1⟩, ⟨ys, h2⟩, h3, h4⟩ := h
  exact ⟨⟨xs, own_to h1 hb⟩, ⟨ys, own_to h2 hb⟩, fun i hi => ⟨(h3 i hi).1.to hb, (h3 i hi).2.to hb⟩, h4⟩
theorem own_rowB {w : World} {B g n : Nat} {T : TypeId} (h : RowB w g T (n * 5)) (hB : B ≤ g) (hn : n ≤ maxLen) : ∃ xs, w.ownsRow B T 5 (.slice (some ⟨g, 0, none⟩) n n) n xs := by
  obtain ⟨⟨F, c, hc, hs, _⟩, _⟩ := h
  exact ⟨c.toList.take (n * 5), by simp [hs], .inr ⟨g, n, c, rfl, hB, hc, Nat.le_refl _, hn, hs, rfl⟩⟩
theorem keepA {w : World} {b i : Nat} {v : Value} {o : Obj} (h : w.cell? ⟨b, i, none⟩ = some v) : (w.alloc o).cell? ⟨b, i, none⟩ = some v := keepa h (World.block_lt_of_cell? w ⟨b, i, none⟩ h)
theorem has_new {w : World} {q : Cx} {A1 A2 A3 : Option Addr} {T : TypeId} (h : Num3 w A1 A2 A3 q) : HasP (w.alloc (.cells #[.bool (sn (na q)), .slice A1 (ln (ab (na q))) (ln (ab (na q))), .bool (sn (nb q)), .slice A2 (ln (ab (nb q))) (ln (ab (nb q))), .slice A3 (ln (un q)) (ln (un q))] T)) w.heap.size q :=
  ⟨by simp, ⟨A1, A2, A3, ⟨by go_simp, by go_simp, by go_simp, by go_simp, by go_simp⟩, h.1.alloc _, h.2.1.alloc _, h.2.2.alloc _⟩, by go_simp, by go_simp, by go_simp, by go_simp, by go_simp⟩
theorem has_newC {w : World} {q : Cx} {A1 A2 A3 : Option Addr} {c1 c2 c3 : Nat} {T : TypeId} (h : Num3C w A1 A2 A3 q) : HasR (w.alloc (.cells #[.bool (sn (na q)), .slice A1 (ln (ab (na q))) c1, .bool (sn (nb q)), .slice A2 (ln (ab (nb q))) c2, .slice A3 (ln (nd q)) c3] T)) w.heap.size q :=
  ⟨by simp, ⟨A1, A2, A3, c1, c2, c3, ⟨by go_simp, by go_simp, by go_simp, by go_simp, by go_simp⟩, h.1.alloc _, h.2.1.alloc _, h.2.2.alloc _⟩, by go_simp, by go_simp, by go_simp, by go_simp, by go_simp⟩
/-- Two variables are made, one behind the other. -/
theorem two_newP {W : World} {x y : Cx} {A1 A2 A3 B1 B2 B3 : Option Addr} {T U : TypeId} (hx : Num3 W A1 A2 A3 x) (hy : Num3 W B1 B2 B3 y) :
    HasP ((W.alloc (.cells #[.bool (sn (na x)), .slice A1 (ln (ab (na x))) (ln (ab (na x))), .bool (sn (nb x)), .slice A2 (ln (ab (nb x))) (ln (ab (nb x))), .slice A3 (ln (un x)) (ln (un x))] T)).alloc (.cells #[.bool (sn (na y)), .slice B1 (ln (ab (na y))) (ln (ab (na y))), .bool (sn (nb y)), .slice B2 (ln (ab (nb y))) (ln (ab (nb y))), .slice B3 (ln (un y)) (ln (un y))] U)).drew W.heap.size x ∧ HasP ((W.alloc (.cells #[.bool (sn (na x)), .slice A1 (ln (ab (na x))) (ln (ab (na x))), .bool (sn (nb x)), .slice A2 (ln (ab (nb x))) (ln (ab (nb x))), .slice A3 (ln (un x)) (ln (un x))] T)).alloc (.cells #[.bool (sn (na y)), .slice B1 (ln (ab (na y))) (ln (ab (na y))), .bool (sn (nb y)), .slice B2 (ln (ab (nb y))) (ln (ab (nb y))), .slice B3 (ln (un y)) (ln (un y))] U)).drew (W.heap.size + 1) y ∧ Below W.heap.size W ((W.alloc (.cells #[.bool (sn (na x)), .slice A1 (ln (ab (na x))) (ln (ab (na x))), .bool (sn (nb x)), .slice A2 (ln (ab (nb x))) (ln (ab (nb x))), .slice A3 (ln (un x)) (ln (un x))] T)).alloc (.cells #[.bool (sn (na y)), .slice B1 (ln (ab (na y))) (ln (ab (na y))), .bool (sn (nb y)), .slice B2 (ln (ab (nb y))) (ln (ab (nb y))), .slice B3 (ln (un y)) (ln (un y))] U)).drew := by
  have b1 : Below W.heap.size W (W.alloc (.cells #[.bool (sn (na x)), .slice A1 (ln (ab (na x))) (ln (ab (na x))), .bool (sn (nb x)), .slice A2 (ln (ab (nb x))) (ln (ab (nb x))), .slice A3 (ln (un x)) (ln (un x))] T)) := (Below.refl _ _).alloc (Nat.le_refl _) _
  have b2 : Below (W.alloc (.cells #[.bool (sn (na x)), .slice A1 (ln (ab (na x))) (ln (ab (na x))), .bool (sn (nb x)), .slice A2 (ln (ab (nb x))) (ln (ab (nb x))), .slice A3 (ln (un x)) (ln (un x))] T)).heap.size (W.alloc (.cells #[.bool (sn (na x)), .slice A1 (ln (ab (na x))) (ln (ab (na x))), .bool (sn (nb x)), .slice A2 (ln (ab (nb x))) (ln (ab (nb x))), .slice A3 (ln (un x)) (ln (un x))] T)) ((W.alloc (.cells #[.bool (sn (na x)), .slice A1 (ln (ab (na x))) (ln (ab (na x))), .bool (sn (nb x)), .slice A2 (ln (ab (nb x))) (ln (ab (nb x))), .slice A3 (ln (un x)) (ln (un x))] T)).alloc (.cells #[.bool (sn (na y)), .slice B1 (ln (ab (na y))) (ln (ab (na y))), .bool (sn (nb y)), .slice B2 (ln (ab (nb y))) (ln (ab (nb y))), .slice B3 (ln (un y)) (ln (un y))] U)).drew := ((Below.refl _ _).alloc (Nat.le_refl _) _).drew
  refine ⟨(has_new hx).to b2, ?_, b1.trans (b2.mono b1.size)⟩
  have h2 := has_new (w := W.alloc (.cells #[.bool (sn (na x)), .slice A1 (ln (ab (na x))) (ln (ab (na x))), .bool (sn (nb x)), .slice A2 (ln (ab (nb x))) (ln (ab (nb x))), .slice A3 (ln (un x)) (ln (un x))] T)) (T := U) (hy.to b1)
  have h3 := h2.to (w' := ((W.alloc (.cells #[.bool (sn (na x)), .slice A1 (ln (ab (na x))) (ln (ab (na x))), .bool (sn (nb x)), .slice A2 (ln (ab (nb x))) (ln (ab (nb x))), .slice A3 (ln (un x)) (ln (un x))] T)).alloc (.cells #[.bool (sn (na y)), .slice B1 (ln (ab (na y))) (ln (ab (na y))), .bool (sn (nb y)), .slice B2 (ln (ab (nb y))) (ln (ab (nb y))), .slice B3 (ln (un y)) (ln (un y))] U)).drew) ((Below.refl _ _).drew)
  have e : (W.alloc (.cells #[.bool (sn (na x)), .slice A1 (ln (ab (na x))) (ln (ab (na x))), .bool (sn (nb x)), .slice A2 (ln (ab (nb x))) (ln (ab (nb x))), .slice A3 (ln (un x)) (ln (un x))] T)).heap.size = W.heap.size + 1 := by simp
  rwa [e] at h3
/-- Two variables are made, one behind the other. -/
theorem two_newR {W : World} {x y : Cx} {A1 A2 A3 B1 B2 B3 : Option Addr} {c1 c2 c3 d1 d2 d3 : Nat} {T U : TypeId} (hx : Num3C W A1 A2 A3 x) (hy : Num3C W B1 B2 B3 y) :
    HasR ((W.alloc (.cells #[.bool (sn (na x)), .slice A1 (ln (ab (na x))) c1, .bool (sn (nb x)), .slice A2 (ln (ab (nb x))) c2, .slice A3 (ln (nd x)) c3] T)).alloc (.cells #[.bool (sn (na y)), .slice B1 (ln (ab (na y))) d1, .bool (sn (nb y)), .slice B2 (ln (ab (nb y))) d2, .slice B3 (ln (nd y)) d3] U)).drew W.heap.size x ∧ HasR ((W.alloc (.cells #[.bool (sn (na x)), .slice A1 (ln (ab (na x))) c1, .bool (sn (nb x)), .slice A2 (ln (ab (nb x))) c2, .slice A3 (ln (nd x)) c3] T)).alloc (.cells #[.bool (sn (na y)), .slice B1 (ln (ab (na y))) d1, .bool (sn (nb y)), .slice B2 (ln (ab (nb y))) d2, .slice B3 (ln (nd y)) d3] U)).drew (W.heap.size + 1) y ∧ Below W.heap.size W ((W.alloc (.cells #[.bool (sn (na x)), .slice A1 (ln (ab (na x))) c1, .bool (sn (nb x)), .slice A2 (ln (ab (nb x))) c2, .slice A3 (ln (nd x)) c3] T)).alloc (.cells #[.bool (sn (na y)), .slice B1 (ln (ab (na y))) d1, .bool (sn (nb y)), .slice B2 (ln (ab (nb y))) d2, .slice B3 (ln (nd y)) d3] U)).drew := by
  have b1 : Below W.heap.size W (W.alloc (.cells #[.bool (sn (na x)), .slice A1 (ln (ab (na x))) c1, .bool (sn (nb x)), .slice A2 (ln (ab (nb x))) c2, .slice A3 (ln (nd x)) c3] T)) := (Below.refl _ _).alloc (Nat.le_refl _) _
  have b2 : Below (W.alloc (.cells #[.bool (sn (na x)), .slice A1 (ln (ab (na x))) c1, .bool (sn (nb x)), .slice A2 (ln (ab (nb x))) c2, .slice A3 (ln (nd x)) c3] T)).heap.size (W.alloc (.cells #[.bool (sn (na x)), .slice A1 (ln (ab (na x))) c1, .bool (sn (nb x)), .slice A2 (ln (ab (nb x))) c2, .slice A3 (ln (nd x)) c3] T)) ((W.alloc (.cells #[.bool (sn (na x)), .slice A1 (ln (ab (na x))) c1, .bool (sn (nb x)), .slice A2 (ln (ab (nb x))) c2, .slice A3 (ln (nd x)) c3] T)).alloc (.cells #[.bool (sn (na y)), .slice B1 (ln (ab (na y))) d1, .bool (sn (nb y)), .slice B2 (ln (ab (nb y))) d2, .slice B3 (ln (nd y)) d3] U)).drew := ((Below.refl _ _).alloc (Nat.le_refl _) _).drew
  refine ⟨(has_newC hx).to b2, ?_, b1.trans (b2.mono b1.size)⟩
  have h2 := has_newC (c1 := d1) (c2 := d2) (c3 := d3) (w := W.alloc (.cells #[.bool (sn (na x)), .slice A1 (ln (ab (na x))) c1, .bool (sn (nb x)), .slice A2 (ln (ab (nb x))) c2, .slice A3 (ln (nd x)) c3] T)) (T := U) (hy.to b1)
  have h3 := h2.to (w' := ((W.alloc (.cells #[.bool (sn (na x)), .slice A1 (ln (ab (na x))) c1, .bool (sn (nb x)), .slice A2 (ln (ab (nb x))) c2, .slice A3 (ln (nd x)) c3] T)).alloc (.cells #[.bool (sn (na y)), .slice B1 (ln (ab (na y))) d1, .bool (sn (nb y)), .slice B2 (ln (ab (nb y))) d2, .slice B3 (ln (nd y)) d3] U)).drew) ((Below.refl _ _).drew)
  have e : (W.alloc (.cells #[.bool (sn (na x)), .slice A1 (ln (ab (na x))) c1, .bool (sn (nb x)), .slice A2 (ln (ab (nb x))) c2, .slice A3 (ln (nd x)) c3] T)).heap.size = W.heap.size + 1 := by simp
  rwa [e] at h3
theorem rem_at {u : Int} {n : Nat} (h : 0 ≤ u) (hn : 0 < n) : ∃ j : Nat, j < n ∧ u.tmod (n : Int) = (j : Int) := by
  refine ⟨(u.tmod n).toNat, ?_, ?_⟩
  · have h1 := Int.tmod_lt_of_pos u (show (0 : Int) < n by omega)
    have h2 := Int.tmod_nonneg (n : Int) h
    omega
  · have h2 := Int.tmod_nonneg (n : Int) h
    omega
theorem HasP.c5 {w : World} {g : Nat} {q : Cx} (h : HasP w g q) : ∃ A1 A2 A3, C5 w g (.bool (sn (na q))) (.slice A1 (ln (ab (na q))) (ln (ab (na q)))) (.bool (sn (nb q))) (.slice A2 (ln (ab (nb q))) (ln (ab (nb q)))) (.slice A3 (ln (un q)) (ln (un q))) ∧ Num3 w A1 A2 A3 q := by
  obtain ⟨_, ⟨A1, A2, A3, c, n⟩, _⟩ := h; exact ⟨A1, A2, A3, c, n⟩
theorem HasR.c5 {w : World} {g : Nat} {q : Cx} (h : HasR w g q) : ∃ A1 A2 A3 k1 k2 k3, C5 w g (.bool (sn (na q))) (.slice A1 (ln (ab (na q))) k1) (.bool (sn (nb q))) (.slice A2 (ln (ab (nb q))) k2) (.slice A3 (ln (nd q)) k3) ∧ Num3C w A1 A2 A3 q := by
  obtain ⟨_, ⟨A1, A2, A3, k1, k2, k3, c, n⟩, _⟩ := h; exact ⟨A1, A2, A3, k1, k2, k3, c, n⟩
theorem kind_at {k : Int} (h : 0 ≤ k ∧ k < 256) : k % 9 = 0 ∨ k % 9 = 1 ∨ k % 9 = 2 ∨ k % 9 = 3 ∨ k % 9 = 4 ∨ k % 9 = 5 ∨ k % 9 = 6 ∨ k % 9 = 7 ∨ k % 9 = 8 := by omega
end Go.Proofs.YtgpmlhpgdalheaaGreat

namespace Go.Proofs.YtgpmlhpgdalheaaGreat
open Go.RowKit Pl
set_option linter.unusedVariables false
set_option linter.unusedSimpArgs false
/-- What the region reads: four numbers, in memory and in variables. -/
def Ro (S : World) (g9 g10 g11 g12 : Nat) (x y : Cx) (A1 A2 A3 B1 B2 B3 C1 C2 C3 D1 D2 D3 : Option Addr) (c1 c2 c3 d1 d2 d3 : Nat) (w : World) : Prop :=
  C5 w g9 (.bool (sn (na x))) (.slice A1 (ln (ab (na x))) (ln (ab (na x)))) (.bool (sn (nb x))) (.slice A2 (ln (ab (nb x))) (ln (ab (nb x)))) (.slice A3 (ln (un x)) (ln (un x))) ∧
  C5 w g10 (.bool (sn (na y))) (.slice B1 (ln (ab (na y))) (ln (ab (na y)))) (.bool (sn (nb y))) (.slice B2 (ln (ab (nb y))) (ln (ab (nb y)))) (.slice B3 (ln (un y)) (ln (un y))) ∧
  C5 w g11 (.bool (sn (na x))) (.slice C1 (ln (ab (na x))) c1) (.bool (sn (nb x))) (.slice C2 (ln (ab (nb x))) c2) (.slice C3 (ln (nd x)) c3) ∧
  C5 w g12 (.bool (sn (na y))) (.slice D1 (ln (ab (na y))) d1) (.bool (sn (nb y))) (.slice D2 (ln (ab (nb y))) d2) (.slice D3 (ln (nd y)) d3) ∧
  Num3 w A1 A2 A3 x ∧ Num3 w B1 B2 B3 y ∧ Num3C w C1 C2 C3 x ∧ Num3C w D1 D2 D3 y ∧
  HasP w g9 x ∧ HasP w g10 y ∧ HasR w g11 x ∧ HasR w g12 y ∧ Below S.heap.size S w
theorem Ro.to {S w w' : World} {g9 g10 g11 g12 : Nat} {x y : Cx} {A1 A2 A3 B1 B2 B3 C1 C2 C3 D1 D2 D3 : Option Addr} {c1 c2 c3 d1 d2 d3 : Nat}
    (h : Ro S g9 g10 g11 g12 x y A1 A2 A3 B1 B2 B3 C1 C2 C3 D1 D2 D3 c1 c2 c3 d1 d2 d3 w) (hb : Below w.heap.size w w') : Ro S g9 g10 g11 g12 x y A1 A2 A3 B1 B2 B3 C1 C2 C3 D1 D2 D3 c1 c2 c3 d1 d2 d3 w' := by
  obtain ⟨x9, x10, x11, x12, n9, n10, n11, n12, v9, v10, v11, v12, hB⟩ := h
  exact ⟨x9.to hb v9.1, x10.to hb v10.1, x11.to hb v11.1, x12.to hb v12.1, n9.to hb, n10.to hb, n11.to hb, n12.to hb, v9.to hb, v10.to hb, v11.to hb, v12.to hb, hB.trans (hb.mono hB.size)⟩
theorem Ro.mk {S w : World} {g9 g10 g11 g12 : Nat} {x y : Cx} (v9 : HasP w g9 x) (v10 : HasP w g10 y) (v11 : HasR w g11 x) (v12 : HasR w g12 y) (hB : Below S.heap.size S w) :
    ∃ A1 A2 A3 B1 B2 B3 C1 C2 C3 D1 D2 D3 c1 c2 c3 d1 d2 d3, Ro S g9 g10 g11 g12 x y A1 A2 A3 B1 B2 B3 C1 C2 C3 D1 D2 D3 c1 c2 c3 d1 d2 d3 w := by
  obtain ⟨A1, A2, A3, x9, n9⟩ := v9.c5
  obtain ⟨B1, B2, B3, x10, n10⟩ := v10.c5
  obtain ⟨C1, C2, C3, c1, c2, c3, x11, n11⟩ := v11.c5
  obtain ⟨D1, D2, D3, d1, d2, d3, x12, n12⟩ := v12.c5
  exact ⟨A1, A2, A3, B1, B2, B3, C1, C2, C3, D1, D2, D3, c1, c2, c3, d1, d2, d3, x9, x10, x11, x12, n9, n10, n11, n12, v9, v10, v11, v12, hB⟩
theorem Ro.fin {S w : World} {g9 g10 g11 g12 : Nat} {x y : Cx} {A1 A2 A3 B1 B2 B3 C1 C2 C3 D1 D2 D3 : Option Addr} {c1 c2 c3 d1 d2 d3 : Nat}
    (h : Ro S g9 g10 g11 g12 x y A1 A2 A3 B1 B2 B3 C1 C2 C3 D1 D2 D3 c1 c2 c3 d1 d2 d3 w) : HasP w g9 x ∧ HasP w g10 y ∧ HasR w g11 x ∧ HasR w g12 y ∧ Below S.heap.size S w := h.2.2.2.2.2.2.2.2
theorem Ro.c9 {S w : World} {g9 g10 g11 g12 : Nat} {x y : Cx} {A1 A2 A3 B1 B2 B3 C1 C2 C3 D1 D2 D3 : Option Addr} {c1 c2 c3 d1 d2 d3 : Nat}
    (h : Ro S g9 g10 g11 g12 x y A1 A2 A3 B1 B2 B3 C1 C2 C3 D1 D2 D3 c1 c2 c3 d1 d2 d3 w) : C5 w g9 (.bool (sn (na x))) (.slice A1 (ln (ab (na x))) (ln (ab (na x)))) (.bool (sn (nb x))) (.slice A2 (ln (ab (nb x))) (ln (ab (nb x)))) (.slice A3 (ln (un x)) (ln (un x))) := h.1
theorem Ro.c10 {S w : World} {g9 g10 g11 g12 : Nat} {x y : Cx} {A1 A2 A3 B1 B2 B3 C1 C2 C3 D1 D2 D3 : Option Addr} {c1 c2 c3 d1 d2 d3 : Nat}
    (h : Ro S g9 g10 g11 g12 x y A1 A2 A3 B1 B2 B3 C1 C2 C3 D1 D2 D3 c1 c2 c3 d1 d2 d3 w) : C5 w g10 (.bool (sn (na y))) (.slice B1 (ln (ab (na y))) (ln (ab (na y)))) (.bool (sn (nb y))) (.slice B2 (ln (ab (nb y))) (ln (ab (nb y)))) (.slice B3 (ln (un y)) (ln (un y))) := h.2.1
theorem Ro.c11 {S w : World} {g9 g10 g11 g12 : Nat} {x y : Cx} {A1 A2 A3 B1 B2 B3 C1 C2 C3 D1 D2 D3 : Option Addr} {c1 c2 c3 d1 d2 d3 : Nat}
    (h : Ro S g9 g10 g11 g12 x y A1 A2 A3 B1 B2 B3 C1 C2 C3 D1 D2 D3 c1 c2 c3 d1 d2 d3 w) : C5 w g11 (.bool (sn (na x))) (.slice C1 (ln (ab (na x))) c1) (.bool (sn (nb x))) (.slice C2 (ln (ab (nb x))) c2) (.slice C3 (ln (nd x)) c3) := h.2.2.1
theorem Ro.c12 {S w : World} {g9 g10 g11 g12 : Nat} {x y : Cx} {A1 A2 A3 B1 B2 B3 C1 C2 C3 D1 D2 D3 : Option Addr} {c1 c2 c3 d1 d2 d3 : Nat}
    (h : Ro S g9 g10 g11 g12 x y A1 A2 A3 B1 B2 B3 C1 C2 C3 D1 D2 D3 c1 c2 c3 d1 d2 d3 w) : C5 w g12 (.bool (sn (na y))) (.slice D1 (ln (ab (na y))) d1) (.bool (sn (nb y))) (.slice D2 (ln (ab (nb y))) d2) (.slice D3 (ln (nd y)) d3) := h.2.2.2.1
theorem Ro.nums {S w : World} {g9 g10 g11 g12 : Nat} {x y : Cx} {A1 A2 A3 B1 B2 B3 C1 C2 C3 D1 D2 D3 : Option Addr} {c1 c2 c3 d1 d2 d3 : Nat}
    (h : Ro S g9 g10 g11 g12 x y A1 A2 A3 B1 B2 B3 C1 C2 C3 D1 D2 D3 c1 c2 c3 d1 d2 d3 w) : Num3 w A1 A2 A3 x ∧ Num3 w B1 B2 B3 y ∧ Num3C w C1 C2 C3 x ∧ Num3C w D1 D2 D3 y := ⟨h.2.2.2.2.1, h.2.2.2.2.2.1, h.2.2.2.2.2.2.1, h.2.2.2.2.2.2.2.1⟩
/-- The numbers as values. -/
def AgP (q : Cx) (A1 A2 A3 : Option Addr) : Value := .agg #[.bool (sn (na q)), .slice A1 (ln (ab (na q))) (ln (ab (na q))), .bool (sn (nb q)), .slice A2 (ln (ab (nb q))) (ln (ab (nb q))), .slice A3 (ln (un q)) (ln (un q))]
def AgR (q : Cx) (A1 A2 A3 : Option Addr) (c1 c2 c3 : Nat) : Value := .agg #[.bool (sn (na q)), .slice A1 (ln (ab (na q))) c1, .bool (sn (nb q)), .slice A2 (ln (ab (nb q))) c2, .slice A3 (ln (nd q)) c3]
/-- An arm of the switch: the first variables of both sides get the result (operations s and t), the second ones stay. -/
def Sw (l : Array Bool) (s t : Nat) (S : World) (g9 g10 g11 g12 : Nat) (x y r : Cx) (w : World) : Prop :=
  (Off l s (HasP w g9 x) ∧ On l s (HasP w g9 r)) ∧ HasP w g10 y ∧ (Off l t (HasR w g11 x) ∧ On l t (HasR w g11 r)) ∧ HasR w g12 y ∧ Below S.heap.size S w ∧ (g9 ≠ g10 ∧ g9 < g11 ∧ g9 < g12 ∧ g10 < g11 ∧ g10 < g12 ∧ g11 ≠ g12) ∧ S.heap.size ≤ g9
section
variable {l : Array Bool} {s t i j g9 g10 g11 g12 : Nat} {S w w' : World} {x y r : Cx} {u : Value}
theorem Off.map {p q : Prop} (h : Off l i p) (f : p → q) : Off l i q := fun k => f (h k)
theorem Sw.ca (h : Sw l s t S g9 g10 g11 g12 x y r w) (hb : Below w.heap.size w w') (h1 : s ≠ i) (h2 : t ≠ i) : Sw (l.setIfInBounds i true) s t S g9 g10 g11 g12 x y r w' := by
  obtain ⟨⟨a1, a2⟩, a3, ⟨a4, a5⟩, a6, a7, a8⟩ := h
  exact ⟨⟨a1.keep.map (·.to hb), (a2.keep h1).map (·.to hb)⟩, a3.to hb, ⟨a4.keep.map (·.to hb), (a5.keep h2).map (·.to hb)⟩, a6.to hb, a7.trans (hb.mono a7.size), a8⟩
theorem Sw.ld (h : Sw l s t S g9 g10 g11 g12 x y r w) (h1 : s ≠ i) (h2 : t ≠ i) : Sw (l.setIfInBounds i true) s t S g9 g10 g11 g12 x y r w := h.ca (Below.refl _ _) h1 h2
theorem Sw.start {n : Nat} (v9 : HasP w g9 x) (v10 : HasP w g10 y) (v11 : HasR w g11 x) (v12 : HasR w g12 y) (hb : Below S.heap.size S w) (hd : g9 ≠ g10 ∧ g9 < g11 ∧ g9 < g12 ∧ g10 < g11 ∧ g10 < g12 ∧ g11 ≠ g12) (h9 : S.heap.size ≤ g9) : Sw (Array.replicate n false) s t S g9 g10 g11 g12 x y r w.drew := by
  have off : ∀ i, ¬ on (Array.replicate n false) i = true := by
    intro i k
    unfold on at k
    rw [Array.getD_eq_getD_getElem?] at k
    by_cases h : i < n
    · simp [h] at k
    · simp [Array.getElem?_eq_none (show (Array.replicate n false).size ≤ i by simp; omega)] at k
  have b : Below w.heap.size w w.drew := (Below.refl _ _).drew
  exact ⟨⟨fun _ => v9.to b, fun k => absurd k (off s)⟩, v10.to b, ⟨fun _ => v11.to b, fun k => absurd k (off t)⟩, v12.to b, hb.trans (b.mono hb.size), hd, h9⟩
theorem Sw.boolP (h : Sw l s t S g9 g10 g11 g12 x y r w) (k : ¬ on l s = true) : ∃ c v1 v2 v3 v4, C5 w g9 (.bool c) v1 v2 v3 v4 ∧ Froz w g9 := by
  obtain ⟨_, ⟨c, v1, v2, v3, v4, e⟩, f⟩ := (h.1.1.get k).var; exact ⟨c, v1, v2, v3, v4, e, f⟩
theorem Sw.boolR (h : Sw l s t S g9 g10 g11 g12 x y r w) (k : ¬ on l t = true) : ∃ c v1 v2 v3 v4, C5 w g11 (.bool c) v1 v2 v3 v4 ∧ Froz w g11 := by
  obtain ⟨_, ⟨c, v1, v2, v3, v4, e⟩, f⟩ := (h.2.2.1.1.get k).var; exact ⟨c, v1, v2, v3, v4, e, f⟩
theorem Sw.stP {A1 A2 A3 : Option Addr} (h : Sw l s t S g9 g10 g11 g12 x y r w) (k : ¬ on l s = true) (hs : s < l.size) (hn : t ≠ s) (n : Num3 w A1 A2 A3 r) : Sw (l.setIfInBounds s true) s t S g9 g10 g11 g12 x y r (set5 w g9 r A1 A2 A3) := by
  obtain ⟨⟨a1, a2⟩, a3, ⟨a4, a5⟩, a6, a7, a8, a9⟩ := h
  have v := (a1.get k).var
  obtain ⟨_, ⟨c, _, _, _, _, e0, _⟩, _⟩ := v
  have v := (a1.get k).var
  exact ⟨⟨Off.done hs, On.new (v.putP n)⟩, a3.set5 (by omega) e0, ⟨a4.keep.map (·.set5 (by omega) e0), (a5.keep hn).map (·.set5 (by omega) e0)⟩, a6.set5 (by omega) e0, set5_below a7 a9, a8, a9⟩
theorem Sw.stR {A1 A2 A3 : Option Addr} {k1 k2 k3 : Nat} (h : Sw l s t S g9 g10 g11 g12 x y r w) (k : ¬ on l t = true) (ht : t < l.size) (hn : s ≠ t) (n : Num3C w A1 A2 A3 r) : Sw (l.setIfInBounds t true) s t S g9 g10 g11 g12 x y r (set5c w g11 r A1 A2 A3 k1 k2 k3) := by
  obtain ⟨⟨a1, a2⟩, a3, ⟨a4, a5⟩, a6, a7, a8, a9⟩ := h
  have v := (a4.get k).var
  obtain ⟨_, ⟨c, _, _, _, _, e0, _⟩, _⟩ := v
  have v := (a4.get k).var
  exact ⟨⟨a1.keep.map (·.set5c (by omega) e0), (a2.keep hn).map (·.set5c (by omega) e0)⟩, a3.set5c (by omega) e0, ⟨Off.done ht, On.new (v.putR n)⟩, a6.set5c (by omega) e0, set5c_below a7 (by omega), a8, a9⟩
theorem On.caP (h : On l j (SlotNum w u x)) (hb : Below w.heap.size w w') (hn : j ≠ i) : On (l.setIfInBounds i true) j (SlotNum w' u x) := (h.keep hn).map (·.to hb)
theorem On.caR (h : On l j (SlotNumC w u x)) (hb : Below w.heap.size w w') (hn : j ≠ i) : On (l.setIfInBounds i true) j (SlotNumC w' u x) := (h.keep hn).map (·.to hb)
theorem On.sP {p : Nat} {q : Cx} {A1 A2 A3 : Option Addr} {c : Bool} (h : On l j (SlotNum w u x)) (e : w.cell? ⟨p, 0, none⟩ = some (.bool c)) (hn : j ≠ i) : On (l.setIfInBounds i true) j (SlotNum (set5 w p q A1 A2 A3) u x) := (h.keep hn).map (·.set5 e)
theorem On.sR {p : Nat} {q : Cx} {A1 A2 A3 : Option Addr} {c : Bool} (h : On l j (SlotNumC w u x)) (e : w.cell? ⟨p, 0, none⟩ = some (.bool c)) (hn : j ≠ i) : On (l.setIfInBounds i true) j (SlotNumC (set5 w p q A1 A2 A3) u x) := (h.keep hn).map (·.set5 e)
theorem On.cP {p k1 k2 k3 : Nat} {q : Cx} {A1 A2 A3 : Option Addr} {c : Bool} (h : On l j (SlotNum w u x)) (e : w.cell? ⟨p, 0, none⟩ = some (.bool c)) (hn : j ≠ i) : On (l.setIfInBounds i true) j (SlotNum (set5c w p q A1 A2 A3 k1 k2 k3) u x) := (h.keep hn).map (·.set5c e)
theorem On.cR {p k1 k2 k3 : Nat} {q : Cx} {A1 A2 A3 : Option Addr} {c : Bool} (h : On l j (SlotNumC w u x)) (e : w.cell? ⟨p, 0, none⟩ = some (.bool c)) (hn : j ≠ i) : On (l.setIfInBounds i true) j (SlotNumC (set5c w p q A1 A2 A3 k1 k2 k3) u x) := (h.keep hn).map (·.set5c e)
theorem On.mono {b : Nat} (h : On l j (on l b = true)) (hn : j ≠ i) : On (l.setIfInBounds i true) j (on (l.setIfInBounds i true) b = true) := (h.keep hn).map on_mono
end
/-- Both lists while one may be longer than the other; the variables of both sides. -/
def St (w0 : World) (gl cl nl gm cm nm : Nat) (f : Nat → Cx) (g9 g11 : Nat) (r : Cx) (w : World) : Prop :=
  (∃ xs, w.ownsRow w0.heap.size 30 5 (.slice (some ⟨gl, 0, none⟩) nl cl) nl xs) ∧ (∃ xs, w.ownsRow w0.heap.size 34 5 (.slice (some ⟨gm, 0, none⟩) nm cm) nm xs) ∧
  (∀ i, i < nl → PE w gl (i * 5) (f i)) ∧ (∀ i, i < nm → QE w gm (i * 5) (f i)) ∧ gl ≠ gm ∧ HasP w g9 r ∧ HasR w g11 r ∧ (g9 ≠ gl ∧ g9 ≠ gm ∧ g11 ≠ gl ∧ g11 ≠ gm) ∧ Below w0.heap.size w0 w ∧ 0 < nl ∧ 0 < nm
section
variable {w0 w w' : World} {gl cl nl gm cm nm g9 g11 : Nat} {f : Nat → Cx} {r : Cx}
theorem St.to (h : St w0 gl cl nl gm cm nm f g9 g11 r w) (hb : Below w.heap.size w w') : St w0 gl cl nl gm cm nm f g9 g11 r w' := by
  obtain ⟨⟨xs, h1⟩, ⟨ys, h2⟩, h3, h4, h5, h6, h7, h8, h9, h10, h11⟩ := h
  exact ⟨⟨xs, own_to h1 hb⟩, ⟨ys, own_to h2 hb⟩, fun i hi => (h3 i hi).to hb, fun i hi => (h4 i hi).to hb, h5, h6.to hb, h7.to hb, h8, h9.trans (hb.mono h9.size), h10, h11⟩
theorem St.lt (h : St w0 gl cl nl gm cm nm f g9 g11 r w) : gl < w.heap.size ∧ gm < w.heap.size ∧ g9 < w.heap.size ∧ g11 < w.heap.size := by
  obtain ⟨_, _, h3, h4, _, h6, h7, _, _, h10, h11⟩ := h
  refine ⟨(h3 0 h10).lt, ?_, h6.1, h7.1⟩
  obtain ⟨_, _, _, _, _, _, ⟨c0, _⟩, _⟩ := h4 0 h11
  exact World.block_lt_of_cell? w ⟨gm, _, none⟩ c0
theorem St.boolP (h : St w0 gl cl nl gm cm nm f g9 g11 r w) : ∃ c, w.cell? ⟨gl, 0, none⟩ = some (.bool c) := by
  obtain ⟨_, _, h3, _, _, _, _, _, _, h10, _⟩ := h
  obtain ⟨_, _, _, ⟨c0, _⟩, _⟩ := h3 0 h10
  rw [Nat.zero_mul] at c0
  exact ⟨_, c0⟩
theorem St.boolR (h : St w0 gl cl nl gm cm nm f g9 g11 r w) : ∃ c, w.cell? ⟨gm, 0, none⟩ = some (.bool c) := by
  obtain ⟨_, _, _, h4, _, _, _, _, _, _, h11⟩ := h
  obtain ⟨_, _, _, _, _, _, ⟨c0, _⟩, _⟩ := h4 0 h11
  rw [Nat.zero_mul] at c0
  exact ⟨_, c0⟩
/-- A new slice of one number. -/
def BoxP (w : World) (gl gm : Nat) (u : Value) (r : Cx) : Prop := ∃ b, u = .slice (some ⟨b, 0, none⟩) 1 1 ∧ PE w b 0 r ∧ b ≠ gl ∧ b ≠ gm
def BoxR (w : World) (gl gm : Nat) (u : Value) (r : Cx) : Prop := ∃ b, u = .slice (some ⟨b, 0, none⟩) 1 1 ∧ QE w b 0 r ∧ b ≠ gl ∧ b ≠ gm
theorem BoxP.to {u : Value} (h : BoxP w gl gm u r) (hb : Below w.heap.size w w') : BoxP w' gl gm u r := by
  obtain ⟨b, e, h1, h2⟩ := h; exact ⟨b, e, h1.to hb, h2⟩
theorem BoxR.to {u : Value} (h : BoxR w gl gm u r) (hb : Below w.heap.size w w') : BoxR w' gl gm u r := by
  obtain ⟨b, e, h1, h2⟩ := h; exact ⟨b, e, h1.to hb, h2⟩
theorem BoxP.growL {u : Value} {g2 : Nat} {c : Bool} (h : BoxP w gl gm u r) (hg : w.grownBy w' (some gl)) (k : w.cell? ⟨gl, 0, none⟩ = some (.bool c)) (h2 : g2 = gl ∨ g2 = w.heap.size) : BoxP w' g2 gm u r := by
  obtain ⟨b, e, h1, h3, h4⟩ := h; have := h1.lt; exact ⟨b, e, h1.grow hg k h3, by omega, h4⟩
theorem BoxP.growM {u : Value} {g2 : Nat} {c : Bool} (h : BoxP w gl gm u r) (hg : w.grownBy w' (some gm)) (k : w.cell? ⟨gm, 0, none⟩ = some (.bool c)) (h2 : g2 = gm ∨ g2 = w.heap.size) : BoxP w' gl g2 u r := by
  obtain ⟨b, e, h1, h3, h4⟩ := h; have := h1.lt; exact ⟨b, e, h1.grow hg k h4, h3, by omega⟩
theorem BoxR.growL {u : Value} {g2 : Nat} {c : Bool} (h : BoxR w gl gm u r) (hg : w.grownBy w' (some gl)) (k : w.cell? ⟨gl, 0, none⟩ = some (.bool c)) (h2 : g2 = gl ∨ g2 = w.heap.size) : BoxR w' g2 gm u r := by
  obtain ⟨b, e, h1, h3, h4⟩ := h; have := h1.lt; exact ⟨b, e, h1.grow hg k h3, by omega, h4⟩
theorem BoxR.growM {u : Value} {g2 : Nat} {c : Bool} (h : BoxR w gl gm u r) (hg : w.grownBy w' (some gm)) (k : w.cell? ⟨gm, 0, none⟩ = some (.bool c)) (h2 : g2 = gm ∨ g2 = w.heap.size) : BoxR w' gl g2 u r := by
  obtain ⟨b, e, h1, h3, h4⟩ := h; have := h1.lt; exact ⟨b, e, h1.grow hg k h4, h3, by omega⟩
theorem SlotNum.growB {u : Value} {g : Nat} {c : Bool} (h : SlotNum w u r) (hg : w.grownBy w' (some g)) (k : w.cell? ⟨g, 0, none⟩ = some (.bool c)) : SlotNum w' u r := by
  obtain ⟨A1, A2, A3, e, n⟩ := h; exact ⟨A1, A2, A3, e, grow_num hg k n⟩
theorem SlotNumC.growB {u : Value} {g : Nat} {c : Bool} (h : SlotNumC w u r) (hg : w.grownBy w' (some g)) (k : w.cell? ⟨g, 0, none⟩ = some (.bool c)) : SlotNumC w' u r := by
  obtain ⟨A1, A2, A3, k1, k2, k3, e, n⟩ := h; exact ⟨A1, A2, A3, k1, k2, k3, e, grow_numC hg k n⟩
theorem HasP.growB {g b : Nat} {q : Cx} {c : Bool} (h : HasP w b q) (hg : w.grownBy w' (some g)) (k : w.cell? ⟨g, 0, none⟩ = some (.bool c)) (hn : b ≠ g) : HasP w' b q := by
  obtain ⟨l, ⟨A1, A2, A3, ⟨c0, c1, c2, c3, c4⟩, n⟩, f0, f1, f2, f3, f4⟩ := h
  have hne : some b ≠ some g := fun e => hn (by injection e)
  have fr : ∀ i v, w.frozen? ⟨b, i, none⟩ = v → w'.frozen? ⟨b, i, none⟩ = v := fun i v h => (World.frozen?_of_block (a := ⟨b, i, none⟩) (hg.block b l hne)).trans h
  exact ⟨Nat.lt_of_lt_of_le l hg.size, ⟨A1, A2, A3, ⟨hg.cell c0 hne, hg.cell c1 hne, hg.cell c2 hne, hg.cell c3 hne, hg.cell c4 hne⟩, grow_num hg k n⟩, fr _ _ f0, fr _ _ f1, fr _ _ f2, fr _ _ f3, fr _ _ f4⟩
theorem HasR.growB {g b : Nat} {q : Cx} {c : Bool} (h : HasR w b q) (hg : w.grownBy w' (some g)) (k : w.cell? ⟨g, 0, none⟩ = some (.bool c)) (hn : b ≠ g) : HasR w' b q := by
  obtain ⟨l, ⟨A1, A2, A3, m1, m2, m3, ⟨c0, c1, c2, c3, c4⟩, n⟩, f0, f1, f2, f3, f4⟩ := h
  have hne : some b ≠ some g := fun e => hn (by injection e)
  have fr : ∀ i v, w.frozen? ⟨b, i, none⟩ = v → w'.frozen? ⟨b, i, none⟩ = v := fun i v h => (World.frozen?_of_block (a := ⟨b, i, none⟩) (hg.block b l hne)).trans h
  exact ⟨Nat.lt_of_lt_of_le l hg.size, ⟨A1, A2, A3, m1, m2, m3, ⟨hg.cell c0 hne, hg.cell c1 hne, hg.cell c2 hne, hg.cell c3 hne, hg.cell c4 hne⟩, grow_numC hg k n⟩, fr _ _ f0, fr _ _ f1, fr _ _ f2, fr _ _ f3, fr _ _ f4⟩
theorem St.pushP {u : Value} (h : St w0 gl cl nl gm cm nm f g9 g11 r w) (hu : BoxP w gl gm u r) (hf : f nl = r) (hn : nl ≤ 1000) :
    ∃ g2 c2 w' c, (Builtin.append_ #[54, 54] 54 #[.slice (some ⟨gl, 0, none⟩) nl cl, u]).run Tryz.prog w = .ok (.slice (some ⟨g2, 0, none⟩) (nl + 1) c2) w' ∧ St w0 g2 c2 (nl + 1) gm cm nm f g9 g11 r w' ∧ w.grownBy w' (some gl) ∧ w.cell? ⟨gl, 0, none⟩ = some (.bool c) ∧ (g2 = gl ∨ g2 = w.heap.size) := by
  have hl := h.lt
  obtain ⟨c, k⟩ := h.boolP
  obtain ⟨h1, ⟨ys, h2⟩, h3, h4, h5, h6, h7, h8, h9, h10, h11⟩ := h
  obtain ⟨b, rfl, hp, hb1, hb2⟩ := hu
  obtain ⟨g2, c2, w', e, p1, p2, p3, p4, p5⟩ := push_P h1 h3 h9.size h10 hn hp
  have hgb : w0.heap.size ≤ gl := by
    obtain ⟨xs, h1⟩ := h1
    rcases h1.2 with ⟨e, _⟩ | ⟨g', cap, cur, e, hbg, _⟩
    · cases e
    · injection e with e1; injection e1 with e1; injection e1 with e1; omega
  refine ⟨g2, c2, w', c, e, ⟨p1, ⟨ys, h2.kept (row := some gl) p4 (.inr (fun e => h5 (Option.some.inj (show some gm = some gl from e)).symm))⟩, fun i hi => ?_, fun i hi => (h4 i hi).grow p4 k (Ne.symm h5), by omega, h6.growB p4 k h8.1, h7.growB p4 k h8.2.2.1, by omega, h9.grown p4 h9.size (fun k hk => by injection hk with hk; omega), by omega, h11⟩, p4, k, p5⟩
  by_cases e : i = nl
  · subst e; rw [hf]; exact p3
  · exact p2 i (by omega)
theorem St.pushR {u : Value} (h : St w0 gl cl nl gm cm nm f g9 g11 r w) (hu : BoxR w gl gm u r) (hf : f nm = r) (hn : nm ≤ 1000) :
    ∃ g2 c2 w' c, (Builtin.append_ #[56, 56] 56 #[.slice (some ⟨gm, 0, none⟩) nm cm, u]).run Tryz.prog w = .ok (.slice (some ⟨g2, 0, none⟩) (nm + 1) c2) w' ∧ St w0 gl cl nl g2 c2 (nm + 1) f g9 g11 r w' ∧ w.grownBy w' (some gm) ∧ w.cell? ⟨gm, 0, none⟩ = some (.bool c) ∧ (g2 = gm ∨ g2 = w.heap.size) := by
  have hl := h.lt
  obtain ⟨c, k⟩ := h.boolR
  obtain ⟨⟨xs, h1⟩, h2, h3, h4, h5, h6, h7, h8, h9, h10, h11⟩ := h
  obtain ⟨b, rfl, hp, hb1, hb2⟩ := hu
  obtain ⟨g2, c2, w', e, p1, p2, p3, p4, p5⟩ := push_R h2 h4 h9.size h11 hn hp
  have hgb : w0.heap.size ≤ gm := by
    obtain ⟨ys, h2⟩ := h2
    rcases h2.2 with ⟨e, _⟩ | ⟨g', cap, cur, e, hbg, _⟩
    · cases e
    · injection e with e1; injection e1 with e1; injection e1 with e1; omega
  refine ⟨g2, c2, w', c, e, ⟨⟨xs, h1.kept (row := some gm) p4 (.inr (fun e => h5 (Option.some.inj (show some gl = some gm from e))))⟩, p1, fun i hi => (h3 i hi).grow p4 k h5, fun i hi => ?_, by omega, h6.growB p4 k h8.2.1, h7.growB p4 k h8.2.2.2, by omega, h9.grown p4 h9.size (fun k hk => by injection hk with hk; omega), h10, by omega⟩, p4, k, p5⟩
  by_cases e : i = nm
  · subst e; rw [hf]; exact p3
  · exact p2 i (by omega)
theorem St.boxP {A1 A2 A3 : Option Addr} {T : TypeId} (h : St w0 gl cl nl gm cm nm f g9 g11 r w) (n : Num3 w A1 A2 A3 r) : BoxP (w.alloc (.cells #[.bool (sn (na r)), .slice A1 (ln (ab (na r))) (ln (ab (na r))), .bool (sn (nb r)), .slice A2 (ln (ab (nb r))) (ln (ab (nb r))), .slice A3 (ln (un r)) (ln (un r))] T)) gl gm (.slice (some ⟨w.heap.size, 0, none⟩) 1 1) r := by
  have hl := h.lt
  exact ⟨_, rfl, ⟨A1, A2, A3, ⟨by go_simp, by go_simp, by go_simp, by go_simp, by go_simp⟩, n.1.alloc _, n.2.1.alloc _, n.2.2.alloc _⟩, by omega, by omega⟩
theorem St.boxR {A1 A2 A3 : Option Addr} {c1 c2 c3 : Nat} {T : TypeId} (h : St w0 gl cl nl gm cm nm f g9 g11 r w) (n : Num3C w A1 A2 A3 r) : BoxR (w.alloc (.cells #[.bool (sn (na r)), .slice A1 (ln (ab (na r))) c1, .bool (sn (nb r)), .slice A2 (ln (ab (nb r))) c2, .slice A3 (ln (nd r)) c3] T)) gl gm (.slice (some ⟨w.heap.size, 0, none⟩) 1 1) r := by
  have hl := h.lt
  exact ⟨_, rfl, ⟨A1, A2, A3, c1, c2, c3, ⟨by go_simp, by go_simp, by go_simp, by go_simp, by go_simp⟩, n.1.alloc _, n.2.1.alloc _, n.2.2.alloc _⟩, by omega, by omega⟩
end
theorem rsame_to (x y : Cx) (A1 A2 A3 B1 B2 B3 : Option Addr) (cA1 cA2 cA3 cB1 cB2 cB3 : Nat) (w : World) (hx : Num3C w A1 A2 A3 x) (hy : Num3C w B1 B2 B3 y) (hsx : sz 137438953472 x) (hsy : sz 137438953472 y) {b : Bool} (h : decide (x = y) = b) :
    Calls Tryz.prog 49 #[.agg #[.bool (sn (na x)), .slice A1 (ln (ab (na x))) cA1, .bool (sn (nb x)), .slice A2 (ln (ab (nb x))) cA2, .slice A3 (ln (nd x)) cA3], .agg #[.bool (sn (na y)), .slice B1 (ln (ab (na y))) cB1, .bool (sn (nb y)), .slice B2 (ln (ab (nb y))) cB2, .slice B3 (ln (nd y)) cB3]] w (RetBool w b) := h ▸ rsame_any x y A1 A2 A3 B1 B2 B3 cA1 cA2 cA3 cB1 cB2 cB3 w hx hy hsx hsy
theorem rcmp_to (x y : Cx) (A1 A2 A3 B1 B2 B3 : Option Addr) (cA1 cA2 cA3 cB1 cB2 cB3 : Nat) (w : World) (hx : Num3C w A1 A2 A3 x) (hy : Num3C w B1 B2 B3 y) (hsx : sz 137438953472 x) (hsy : sz 137438953472 y) {n : Int} (h : cmpC x y = n) :
    Calls Tryz.prog 51 #[.agg #[.bool (sn (na x)), .slice A1 (ln (ab (na x))) cA1, .bool (sn (nb x)), .slice A2 (ln (ab (nb x))) cA2, .slice A3 (ln (nd x)) cA3], .agg #[.bool (sn (na y)), .slice B1 (ln (ab (na y))) cB1, .bool (sn (nb y)), .slice B2 (ln (ab (nb y))) cB2, .slice B3 (ln (nd y)) cB3]] w (RetInt w n) := h ▸ rcmpq_any x y A1 A2 A3 B1 B2 B3 cA1 cA2 cA3 cB1 cB2 cB3 w hx hy hsx hsy
theorem rside_to (x : Cx) (A1 A2 A3 : Option Addr) (cA1 cA2 cA3 : Nat) (w : World) (hx : Num3C w A1 A2 A3 x) (hsx : sz 137438953472 x) {n : Int} (h : cmpZ (nb x) 0 = n) :
    Calls Tryz.prog 53 #[.agg #[.bool (sn (na x)), .slice A1 (ln (ab (na x))) cA1, .bool (sn (nb x)), .slice A2 (ln (ab (nb x))) cA2, .slice A3 (ln (nd x)) cA3]] w (RetInt w n) := h ▸ rside_any x A1 A2 A3 cA1 cA2 cA3 w hx hsx
theorem rzero_to (x : Cx) (A1 A2 A3 : Option Addr) (cA1 cA2 cA3 : Nat) (w : World) (hx : Num3C w A1 A2 A3 x) {b : Bool} (h : decide (x = Cx.zero) = b) :
    Calls Tryz.prog 47 #[.agg #[.bool (sn (na x)), .slice A1 (ln (ab (na x))) cA1, .bool (sn (nb x)), .slice A2 (ln (ab (nb x))) cA2, .slice A3 (ln (nd x)) cA3]] w (RetBool w b) := h ▸ rzero_any x A1 A2 A3 cA1 cA2 cA3 w hx
theorem of_num (x y : Cx) (A1 A2 A3 B1 B2 B3 : Option Addr) (w : World) (hx : Num3 w A1 A2 A3 x) (hy : Num3 w B1 B2 B3 y) :
    Calls Tryz.prog 44 #[.agg #[.bool (sn (na x)), .slice A1 (ln (ab (na x))) (ln (ab (na x))), .bool (sn (nb x)), .slice A2 (ln (ab (nb x))) (ln (ab (nb x))), .slice A3 (ln (un x)) (ln (un x))], .agg #[.bool (sn (na y)), .slice B1 (ln (ab (na y))) (ln (ab (na y))), .bool (sn (nb y)), .slice B2 (ln (ab (nb y))) (ln (ab (nb y))), .slice B3 (ln (un y)) (ln (un y))]] w (RetNum w y) := by
  go_enter Tryz.func44, Tryz.ntmps44
  go_wp2_with fail
  exact bodyPost_ret (v := .agg #[.bool (sn (na y)), .slice B1 (ln (ab (na y))) (ln (ab (na y))), .bool (sn (nb y)), .slice B2 (ln (ab (nb y))) (ln (ab (nb y))), .slice B3 (ln (un y)) (ln (un y))]) (by simp [results, Tryz.results44, go_sem]) rfl ⟨B1, B2, B3, rfl, ⟨((hy.1.alloc _).alloc _).alloc _, ((hy.2.1.alloc _).alloc _).alloc _, ((hy.2.2.alloc _).alloc _).alloc _⟩, (((Below.refl _ _).alloc (Nat.le_refl _) _).alloc (by simp) _).alloc (by simp; omega) _⟩
theorem side_real (x : Cx) : decide (cmpZ (nb x) 0 = 0) = decide (nb x = 0) := by
  unfold cmpZ
  rw [Bool.eq_iff_iff, decide_eq_true_eq, decide_eq_true_eq]
  split <;> (try split) <;> omega
theorem sz_zero {K : Nat} (hK : 1 ≤ K) : sz K Cx.zero := by
  have h := @fr_sz 0 0 1 1 (by omega) (by show ln 0 ≤ _; rw [ln_zero]; omega) (by show ln 0 ≤ _; rw [ln_zero]; omega) (ln_le (by decide))
  have e : fr 0 0 1 = Cx.zero := fr_eq (by omega) (by show ((0:Int):Rat) = (0:Rat) * _; rw [Rat.zero_mul]; rfl) (by show ((0:Int):Rat) = (0:Rat) * _; rw [Rat.zero_mul]; rfl)
  rw [e] at h; exact h.mono hK
theorem fun_more (f : Nat → Cx) (n : Nat) (r : Cx) : ∃ F : Nat → Cx, (∀ i, i < n → F i = f i) ∧ F n = r :=
  ⟨fun i => if i < n then f i else r, fun i hi => by show (if i < n then _ else _) = _; rw [if_pos hi], by show (if n < n then _ else _) = _; rw [if_neg (by omega)]⟩
theorem Two.lt {w0 w : World} {gl cl gm cm n : Nat} {f : Nat → Cx} (h : Two w0 w gl cl gm cm n f) (hn : 0 < n) : gl < w.heap.size ∧ gm < w.heap.size := by
  obtain ⟨_, _, h3, _⟩ := h
  refine ⟨(h3 0 hn).1.lt, ?_⟩
  obtain ⟨_, _, _, _, _, _, ⟨c0, _⟩, _⟩ := (h3 0 hn).2
  exact World.block_lt_of_cell? w ⟨gm, _, none⟩ c0
end Go.Proofs.YtgpmlhpgdalheaaGreat

namespace Go.Proofs.YtgpmlhpgdalheaaGreat
open Go.RowKit Pl
set_option linter.unusedVariables false
set_option linter.unusedSimpArgs false
set_option maxRecDepth 100000 in
set_option maxHeartbeats 40000000 in
theorem script_walk (w : World) (A O : Option Addr) (n c m d : Nat) (X Y Z K U V : Nat → Int) (hT : Triples w A n X Y Z) (hO : OpsAt w O m K U V) (hn0 : 0 < n) (hn : n ≤ 20) (hm : m ≤ 30) :
    Calls Tryz.prog 4 #[.slice A n c, .slice O m d] w (RetBool w true) := by
  have t1 : decide ((20 : Int) < n) = false := by simpa using by omega
  have t2 : decide ((30 : Int) < m) = false := by simpa using by omega
  have t3 : ((n : Int) == 0) = false := by simpa using by omega
  go_enter Tryz.func4, Tryz.ntmps4
  go_wp2_with fail
  refine (list_any _ A n c X Y Z hT (by omega)).mono ?_
  rintro e w1 ⟨gl, rfl, hl0, hl1, hl2, hb1⟩
  go_wp2_with fail
  refine (reflist_any _ A n c X Y Z (hT.to hb1) (by omega)).mono ?_
  rintro e w2 ⟨gm, rfl, hm0, hm1, hm2, hb2⟩
  have hl : gl < w1.heap.size := (hl1 hn0).lt
  have hTwo : Two w w2 gl n gm n n fun i => ofv (X i) (Y i) (Z i) := ⟨own_rowB ((hl1 hn0).to hb2) hl0 (by unfold maxLen; omega), own_rowB (hm1 hn0) (Nat.le_trans hb1.size hm0) (by unfold maxLen; omega), fun i hi => ⟨(hl2 i hi).to hb2, hm2 i hi⟩, by omega⟩
  have hB2 : Below w.heap.size w w2 := hb1.trans (hb2.mono hb1.size)
  have hsz : ∀ i, i < n → sz 750 (ofv (X i) (Y i) (Z i)) := by
    intro i hi
    obtain ⟨_, _, _, _, _, _, _, r0, r1, r2⟩ := hT i hi
    exact (sz_of r0 r1 r2).mono (by decide)
  obtain ⟨f, hf⟩ : ∃ f : Nat → Cx, f = fun i => ofv (X i) (Y i) (Z i) := ⟨_, rfl⟩
  rw [← hf] at hTwo
  replace hsz : ∀ i, i < n → sz 750 (f i) := by rw [hf]; exact hsz
  clear hf
  clear hl0 hl1 hl2 hm0 hm1 hm2 hb1 hb2 hl hT t1 t2 t3
  go_wp2_with fail
  go_loopw [5, 6, 35] (fun l q i wr => ∃ k n' f' gl' cl gm' cm, k ≤ m ∧ 0 < n' ∧ n' ≤ 20 + k ∧ i = .int .i64 (k : Nat) ∧ l = .slice (some ⟨gl', 0, none⟩) n' cl ∧ q = .slice (some ⟨gm', 0, none⟩) n' cm ∧ Two w wr gl' cl gm' cm n' f' ∧ (∀ i, i < n' → sz 750 (f' i)) ∧ Below w.heap.size w wr) (fun _ _ i _ => m - (intOf i).toNat)
  case atStart => exact ⟨0, n, _, gl, n, gm, n, by omega, hn0, by omega, rfl, rfl, rfl, hTwo, hsz, hB2⟩
  case round =>
    obtain ⟨k, n', f', gl', cl, gm', cm, hk, hn1, hn2, rfl, rfl, rfl, h2, hz, hB⟩ := hrel
    clear hTwo hsz hB2
    by_cases hlt : k < m
    · obtain ⟨b, fo, rfl, hbl, c0, c1, c2, r0, r1, r2⟩ := hO k hlt
      have d0 := (hB.cell (p := ⟨b, fo + k * 3, none⟩) hbl).trans c0
      have d1 := (hB.cell (p := ⟨b, fo + k * 3 + 1, none⟩) hbl).trans c1
      have d2 := (hB.cell (p := ⟨b, fo + k * 3 + 2, none⟩) hbl).trans c2
      clear c0 c1 c2
      have hbl2 : b < wr.heap.size := Nat.lt_of_lt_of_le hbl hB.size
      generalize hKk : K k = kk at *
      generalize hU : U k = ua at *
      generalize hV : V k = ub at *
      go_upto_region 7 with fail
      obtain ⟨g8, hg8⟩ : ∃ g, g = wr.heap.size := ⟨_, rfl⟩
      obtain ⟨W, hW⟩ : ∃ W : World, W = wr.alloc (.cells #[.int .u8 kk, .int .u16 ua, .int .u16 ub] 60) := ⟨_, rfl⟩
      have hb : Below wr.heap.size wr W := by rw [hW]; exact (Below.refl _ _).alloc (Nat.le_refl _) _
      have e0 : W.cell? ⟨g8, 0, none⟩ = some (.int .u8 kk) := by subst hW hg8; go_simp
      have e1 : W.cell? ⟨g8, 1, none⟩ = some (.int .u16 ua) := by subst hW hg8; go_simp
      have e2 : W.cell? ⟨g8, 2, none⟩ = some (.int .u16 ub) := by subst hW hg8; go_simp
      have l8 : g8 < W.heap.size := by subst hW hg8; simp
      rw [← hg8, ← hW]
      replace h2 := h2.to hb
      replace hB := hB.trans (hb.mono hB.size)
      clear hW hb d0 d1 d2 hbl2 hg8
      obtain ⟨j1, hj1, m1⟩ := rem_at r1.1 hn1
      obtain ⟨j2, hj2, m2⟩ := rem_at r2.1 hn1
      have nz : ¬ n' = 0 := by omega
      have wa : IntKind.i64.wrap ua = ua := by rw [IntKind.wrap_i64]; omega
      have wb : IntKind.i64.wrap ub = ub := by rw [IntKind.wrap_i64]; omega
      obtain ⟨x, hx⟩ : ∃ x, x = f' j1 := ⟨_, rfl⟩
      obtain ⟨y, hy⟩ : ∃ y, y = f' j2 := ⟨_, rfl⟩
      have HP1 := (h2.2.2.1 j1 hj1).1
      have HP2 := (h2.2.2.1 j2 hj2).1
      have HR1 := (h2.2.2.1 j1 hj1).2
      have HR2 := (h2.2.2.1 j2 hj2).2
      have zx := hz j1 hj1
      have zy := hz j2 hj2
      rw [← hx] at HP1 HR1 zx
      rw [← hy] at HP2 HR2 zy
      clear hx hy
      have lg := HP1.lt
      have lm := HR1.lt
      obtain ⟨A1, A2, A3, ⟨x0, x1, x2, x3, x4⟩, nx⟩ := HP1
      obtain ⟨B1, B2, B3, ⟨y0, y1, y2, y3, y4⟩, ny⟩ := HP2
      have i1 : (0 : Int) ≤ (j1 : Int) := by omega
      have i2 : (j1 : Int) < (n' : Int) := by omega
      have i3 : (0 : Int) ≤ (j2 : Int) := by omega
      have i4 : (j2 : Int) < (n' : Int) := by omega
      have H2 := Lib.hid h2
      have HBB := Lib.hid hB
      have HZ := Lib.hid hz
      have HX := Lib.hid (And.intro zx zy)
      clear h2 hB hz zx zy hKk hU hV r1 r2
      go_cut [9, 10] (fun p q wx => ∃ g9 g10, p = .pointer (some ⟨g9, 0, none⟩) ∧ q = .pointer (some ⟨g10, 0, none⟩) ∧ W.heap.size ≤ g9 ∧ W.heap.size ≤ g10 ∧ g9 ≠ g10 ∧ HasP wx g9 x ∧ HasP wx g10 y ∧ Below W.heap.size W wx)
      case first => as_aux_lemma =>
        go_region_held3 (fun w' => w'.cell? ⟨g8, 1, none⟩ = some (.int .u16 ua) ∧ w'.cell? ⟨g8, 2, none⟩ = some (.int .u16 ub) ∧ w'.cell? ⟨gl', j1 * 5, none⟩ = some (.bool (sn (na x))) ∧ w'.cell? ⟨gl', j1 * 5 + 1, none⟩ = some (.slice A1 (ln (ab (na x))) (ln (ab (na x)))) ∧ w'.cell? ⟨gl', j1 * 5 + 2, none⟩ = some (.bool (sn (nb x))) ∧ w'.cell? ⟨gl', j1 * 5 + 3, none⟩ = some (.slice A2 (ln (ab (nb x))) (ln (ab (nb x)))) ∧ w'.cell? ⟨gl', j1 * 5 + 4, none⟩ = some (.slice A3 (ln (un x)) (ln (un x))) ∧ w'.cell? ⟨gl', j2 * 5, none⟩ = some (.bool (sn (na y))) ∧ w'.cell? ⟨gl', j2 * 5 + 1, none⟩ = some (.slice B1 (ln (ab (na y))) (ln (ab (na y)))) ∧ w'.cell? ⟨gl', j2 * 5 + 2, none⟩ = some (.bool (sn (nb y))) ∧ w'.cell? ⟨gl', j2 * 5 + 3, none⟩ = some (.slice B2 (ln (ab (nb y))) (ln (ab (nb y)))) ∧ w'.cell? ⟨gl', j2 * 5 + 4, none⟩ = some (.slice B3 (ln (un y)) (ln (un y)))) (((refine ⟨?_, ?_, ?_, ?_, ?_, ?_, ?_, ?_, ?_, ?_, ?_, ?_⟩ <;> (repeat (first | (with_reducible exact e1) | (with_reducible exact e2) | (with_reducible exact x0) | (with_reducible exact x1) | (with_reducible exact x2) | (with_reducible exact x3) | (with_reducible exact x4) | (with_reducible exact y0) | (with_reducible exact y1) | (with_reducible exact y2) | (with_reducible exact y3) | (with_reducible exact y4) | (with_reducible refine keepd ?_) | (with_reducible refine keepA ?_) | (with_reducible refine keeps ?_ (by omega))))))) (first | fail)
        · go_wp2_with fail
          go_meet
          obtain ⟨v1, v2, vb⟩ := two_newP (T := 30) (U := 30) nx ny
          exact ⟨W.heap.size, W.heap.size + 1, rfl, rfl, Nat.le_refl _, by omega, by omega, v1, v2, vb⟩
        · go_wp2_with fail
          go_meet
          obtain ⟨v1, v2, vb⟩ := two_newP (T := 30) (U := 30) ny nx
          exact ⟨W.heap.size + 1, W.heap.size, rfl, rfl, by omega, Nat.le_refl _, by omega, v2, v1, vb⟩
      obtain ⟨g9, g10, q9, q10, b9, b10, n910, v9, v10, hb⟩ := hcut
      subst q9 q10
      clear x0 x1 x2 x3 x4 y0 y1 y2 y3 y4 nx ny
      replace e0 := keepc hb e0 l8; replace e1 := keepc hb e1 l8; replace e2 := keepc hb e2 l8
      replace HR1 := HR1.to hb; replace HR2 := HR2.to hb
      have HF := Lib.hid hb
      replace lm := HR1.lt
      obtain ⟨A1, A2, A3, c1, c2, c3, ⟨x0, x1, x2, x3, x4⟩, nx⟩ := HR1
      obtain ⟨B1, B2, B3, d1, d2, d3, ⟨y0, y1, y2, y3, y4⟩, ny⟩ := HR2
      have l9 := v9.1; have l10 := v10.1
      have N9 := Lib.hid (And.intro b9 b10)
      have n8 : g8 < g9 ∧ g8 < g10 ∧ g9 ≠ g10 := ⟨by omega, by omega, n910⟩
      have l8' : g8 < wc.heap.size := Nat.lt_of_lt_of_le l8 hb.size
      clear hb b9 b10 n910 lg l8
      go_upto_region 8 with fail
      go_cut [11, 12] (fun p q wx => ∃ g11 g12, p = .pointer (some ⟨g11, 0, none⟩) ∧ q = .pointer (some ⟨g12, 0, none⟩) ∧ wc.heap.size ≤ g11 ∧ wc.heap.size ≤ g12 ∧ g11 ≠ g12 ∧ HasR wx g11 x ∧ HasR wx g12 y ∧ Below wc.heap.size wc wx)
      case first => as_aux_lemma =>
        go_region_held3 (fun w' => w'.cell? ⟨g8, 1, none⟩ = some (.int .u16 ua) ∧ w'.cell? ⟨g8, 2, none⟩ = some (.int .u16 ub) ∧ w'.cell? ⟨gm', j1 * 5, none⟩ = some (.bool (sn (na x))) ∧ w'.cell? ⟨gm', j1 * 5 + 1, none⟩ = some (.slice A1 (ln (ab (na x))) c1) ∧ w'.cell? ⟨gm', j1 * 5 + 2, none⟩ = some (.bool (sn (nb x))) ∧ w'.cell? ⟨gm', j1 * 5 + 3, none⟩ = some (.slice A2 (ln (ab (nb x))) c2) ∧ w'.cell? ⟨gm', j1 * 5 + 4, none⟩ = some (.slice A3 (ln (nd x)) c3) ∧ w'.cell? ⟨gm', j2 * 5, none⟩ = some (.bool (sn (na y))) ∧ w'.cell? ⟨gm', j2 * 5 + 1, none⟩ = some (.slice B1 (ln (ab (na y))) d1) ∧ w'.cell? ⟨gm', j2 * 5 + 2, none⟩ = some (.bool (sn (nb y))) ∧ w'.cell? ⟨gm', j2 * 5 + 3, none⟩ = some (.slice B2 (ln (ab (nb y))) d2) ∧ w'.cell? ⟨gm', j2 * 5 + 4, none⟩ = some (.slice B3 (ln (nd y)) d3)) (((refine ⟨?_, ?_, ?_, ?_, ?_, ?_, ?_, ?_, ?_, ?_, ?_, ?_⟩ <;> (repeat (first | (with_reducible exact e1) | (with_reducible exact e2) | (with_reducible exact x0) | (with_reducible exact x1) | (with_reducible exact x2) | (with_reducible exact x3) | (with_reducible exact x4) | (with_reducible exact y0) | (with_reducible exact y1) | (with_reducible exact y2) | (with_reducible exact y3) | (with_reducible exact y4) | (with_reducible refine keepd ?_) | (with_reducible refine keepA ?_) | (with_reducible refine keeps ?_ (by omega))))))) (first | fail)
        · go_wp2_with fail
          go_meet
          obtain ⟨v1, v2, vb⟩ := two_newR (c1 := c1) (c2 := c2) (c3 := c3) (d1 := d1) (d2 := d2) (d3 := d3) (T := 34) (U := 34) nx ny
          exact ⟨wc.heap.size, wc.heap.size + 1, rfl, rfl, Nat.le_refl _, by omega, by omega, v1, v2, vb⟩
        · go_wp2_with fail
          go_meet
          obtain ⟨v1, v2, vb⟩ := two_newR (c1 := d1) (c2 := d2) (c3 := d3) (d1 := c1) (d2 := c2) (d3 := c3) (T := 34) (U := 34) ny nx
          exact ⟨wc.heap.size + 1, wc.heap.size, rfl, rfl, by omega, Nat.le_refl _, by omega, v2, v1, vb⟩
      obtain ⟨g11, g12, q11, q12, b11, b12, n112, v11, v12, hb⟩ := hcut
      subst q11 q12
      replace e0 := keepc hb e0 l8'
      replace v9 := v9.to hb; replace v10 := v10.to hb
      replace HF := HF.out.trans (hb.mono HF.out.size)
      have h9 : W.heap.size ≤ g9 := N9.out.1
      have n9 : g9 ≠ g10 ∧ g9 < g11 ∧ g9 < g12 ∧ g10 < g11 ∧ g10 < g12 ∧ g11 ≠ g12 := ⟨n8.2.2, by omega, by omega, by omega, by omega, n112⟩
      clear x0 x1 x2 x3 x4 y0 y1 y2 y3 y4 nx ny hb b11 b12 n112 lm l8' e1 e2 l9 l10 n8 i1 i2 i3 i4 m1 m2 wa wb
      go_upto_block 2 with fail
      have HD := Lib.hid n9; have H9 := Lib.hid h9; replace HF := Lib.hid HF
      clear n9 h9
      go_cut [13, 14] (fun p q wx => ∃ (r : Cx) (ec : Int), p = .int .i64 ec ∧ q = .int .i64 ec ∧ sz 4000 r ∧ HasP wx g9 r ∧ HasP wx g10 y ∧ HasR wx g11 r ∧ HasR wx g12 y ∧ Below W.heap.size W wx)
      case first =>
        have zx := HX.out.1; have zy := HX.out.2
        obtain ⟨A1, A2, A3, x9, n9⟩ := v9.c5
        obtain ⟨B1, B2, B3, x10, n10⟩ := v10.c5
        obtain ⟨C1, C2, C3, c1, c2, c3, x11, n11⟩ := v11.c5
        obtain ⟨D1, D2, D3, d1, d2, d3, x12, n12⟩ := v12.c5
        have l9 := v9.1; have l10 := v10.1; have l11 := v11.1; have l12 := v12.1
        have hk9 := kind_at r0
        rcases hk9 with t9 | t9 | t9 | t9 | t9 | t9 | t9 | t9 | t9
        · as_aux_lemma =>
            go_upto_region 13 with fail
            clear t9
            refine wp_region_any (by kernel_rfl) ?_
            refine wpAny_inv (fun l a' w' => ∃ q0 q1 q2 q3 q4 q5 : Value, a' = ⟨List.toArray (.slice A n c :: .slice (some ⟨b, fo, none⟩) m d :: undef :: undef :: u4 :: .slice (some ⟨gl', 0, none⟩) n' cl :: .slice (some ⟨gm', 0, none⟩) n' cm :: undef :: .pointer (some ⟨g8, 0, none⟩) :: .pointer (some ⟨g9, 0, none⟩) :: .pointer (some ⟨g10, 0, none⟩) :: .pointer (some ⟨g11, 0, none⟩) :: .pointer (some ⟨g12, 0, none⟩) :: .int .i64 0 :: .int .i64 0 :: .slice A n c :: .int .i64 ↑n :: .bool false :: .bool false :: .slice A n c :: .int .i64 ↑n :: .bool false :: .bool false :: .bool false :: .slice (some ⟨b, fo, none⟩) m d :: .int .i64 ↑m :: .bool false :: .bool false :: undef :: .slice A n c :: .slice (some ⟨gl, 0, none⟩) n n :: .slice A n c :: .slice (some ⟨gm, 0, none⟩) n n :: .slice (some ⟨b, fo, none⟩) m d :: .int .i64 ↑m :: .int .i64 ↑k :: u36 :: u37 :: u38 :: u39 :: u40 :: u41 :: u42 :: u43 :: u44 :: u45 :: u46 :: u47 :: u48 :: u49 :: u50 :: u51 :: u52 :: u53 :: u54 :: u55 :: u56 :: u57 :: u58 :: u59 :: u60 :: u61 :: u62 :: u63 :: u64 :: u65 :: u66 :: u67 :: u68 :: u69 :: u70 :: u71 :: u72 :: u73 :: u74 :: .pointer (some ⟨g8, 0, none⟩) :: .int .u8 kk :: .int .u8 (kk % 9) :: u78 :: u79 :: u80 :: u81 :: .bool true :: .bool true :: q0 :: q1 :: q2 :: q3 :: q4 :: q5 :: u90 :: u91 :: u92 :: u93 :: u94 :: u95 :: u96 :: u97 :: u98 :: u99 :: u100 :: u101 :: u102 :: u103 :: u104 :: u105 :: u106 :: u107 :: u108 :: u109 :: u110 :: u111 :: u112 :: u113 :: u114 :: u115 :: u116 :: u117 :: u118 :: u119 :: u120 :: u121 :: u122 :: u123 :: u124 :: u125 :: u126 :: u127 :: u128 :: u129 :: u130 :: u131 :: u132 :: u133 :: u134 :: u135 :: u136 :: u137 :: u138 :: u139 :: u140 :: u141 :: u142 :: u143 :: u144 :: u145 :: u146 :: u147 :: u148 :: u149 :: u150 :: u151 :: u152 :: u153 :: u154 :: u155 :: u156 :: u157 :: u158 :: u159 :: u160 :: u161 :: u162 :: u163 :: u164 :: u165 :: u166 :: u167 :: u168 :: u169 :: u170 :: u171 :: u172 :: u173 :: u174 :: u175 :: u176 :: u177 :: u178 :: u179 :: u180 :: u181 :: u182 :: u183 :: u184 :: u185 :: u186 :: u187 :: u188 :: u189 :: u190 :: u191 :: u192 :: u193 :: u194 :: u195 :: u196 :: u197 :: u198 :: u199 :: u200 :: u201 :: u202 :: u203 :: u204 :: u205 :: u206 :: u207 :: u208 :: u209 :: u210 :: u211 :: u212 :: undef :: []), []⟩ ∧ Sw l 6 7 W g9 g10 g11 g12 x y (x.add y) w' ∧ On l 0 (SlotNum w' q0 (x)) ∧ On l 1 (SlotNum w' q1 (y)) ∧ On l 2 (SlotNum w' q2 (x.add y)) ∧ On l 3 (SlotNumC w' q3 (x)) ∧ On l 4 (SlotNumC w' q4 (y)) ∧ On l 5 (SlotNumC w' q5 (x.add y)) ∧ On l 6 (on l 0 = true) ∧ On l 7 (on l 3 = true) ∧ l.size = 8) ?_ ?_ _ _ _ _ (by decide) ?_
            · intro l a' W' i hi hI
              obtain ⟨q0, q1, q2, q3, q4, q5, rfl, hS, h0, h1, h2, h3, h4, h5, hx, hy, hz⟩ := hI
              obtain ⟨hlt, hoff, hpre⟩ := ready_pre hi
              have hc : i = 0 ∨ i = 1 ∨ i = 2 ∨ i = 3 ∨ i = 4 ∨ i = 5 ∨ i = 6 ∨ i = 7 := by have : i < 8 := hlt; omega
              clear hi
              rcases hc with rfl | rfl | rfl | rfl | rfl | rfl | rfl | rfl <;> (have hp := hpre _ rfl; simp [Region.binds] at hp; clear hpre)
              · obtain ⟨A1, A2, A3, ⟨c0, c1, c2, c3, c4⟩, n1⟩ := (hS.1.1.get (fun h => off hoff (hx.get h))).slot
                refine wpOp_go rfl rfl (fun K hK => ?_)
                go_simp
                refine hK _ _ ?_
                exact ⟨_, _, _, _, _, _, rfl, hS.ld (by decide) (by decide), On.new ⟨A1, A2, A3, rfl, n1⟩, h1.keep (by decide), h2.keep (by decide), h3.keep (by decide), h4.keep (by decide), h5.keep (by decide), hx.mono (by decide), hy.mono (by decide), by simp [hz]⟩
              · obtain ⟨A1, A2, A3, ⟨c0, c1, c2, c3, c4⟩, n1⟩ := hS.2.1.slot
                refine wpOp_go rfl rfl (fun K hK => ?_)
                go_simp
                refine hK _ _ ?_
                exact ⟨_, _, _, _, _, _, rfl, hS.ld (by decide) (by decide), h0.keep (by decide), On.new ⟨A1, A2, A3, rfl, n1⟩, h2.keep (by decide), h3.keep (by decide), h4.keep (by decide), h5.keep (by decide), hx.mono (by decide), hy.mono (by decide), by simp [hz]⟩
              · obtain ⟨X1, X2, X3, e1, n1⟩ := h0.get (by simp [hp])
                obtain ⟨Y1, Y2, Y3, e2, n2⟩ := h1.get (by simp [hp])
                subst e1 e2
                refine wpOp_go rfl rfl (fun K hK => ?_)
                go_wp2_with (first | (go_at_call 26; refine (add_num x y X1 X2 X3 Y1 Y2 Y3 _ n1 n2 (zx.mono (by decide)) (zy.mono (by decide))).mono ?_; rintro e w1 ⟨A1, A2, A3, rfl, hN, hb⟩))
                try refine hK _ _ ?_
                exact ⟨_, _, _, _, _, _, rfl, hS.ca hb (by decide) (by decide), h0.caP hb (by decide), h1.caP hb (by decide), On.new ⟨A1, A2, A3, rfl, hN⟩, h3.caR hb (by decide), h4.caR hb (by decide), h5.caR hb (by decide), hx.mono (by decide), hy.mono (by decide), by simp [hz]⟩
              · obtain ⟨A1, A2, A3, k1, k2, k3, ⟨c0, c1, c2, c3, c4⟩, n1⟩ := (hS.2.2.1.1.get (fun h => off hoff (hy.get h))).slot
                refine wpOp_go rfl rfl (fun K hK => ?_)
                go_simp
                refine hK _ _ ?_
                exact ⟨_, _, _, _, _, _, rfl, hS.ld (by decide) (by decide), h0.keep (by decide), h1.keep (by decide), h2.keep (by decide), On.new ⟨A1, A2, A3, k1, k2, k3, rfl, n1⟩, h4.keep (by decide), h5.keep (by decide), hx.mono (by decide), hy.mono (by decide), by simp [hz]⟩
              · obtain ⟨A1, A2, A3, k1, k2, k3, ⟨c0, c1, c2, c3, c4⟩, n1⟩ := hS.2.2.2.1.slot
                refine wpOp_go rfl rfl (fun K hK => ?_)
                go_simp
                refine hK _ _ ?_
                exact ⟨_, _, _, _, _, _, rfl, hS.ld (by decide) (by decide), h0.keep (by decide), h1.keep (by decide), h2.keep (by decide), h3.keep (by decide), On.new ⟨A1, A2, A3, k1, k2, k3, rfl, n1⟩, h5.keep (by decide), hx.mono (by decide), hy.mono (by decide), by simp [hz]⟩
              · obtain ⟨X1, X2, X3, x1, x2, x3, e1, n1⟩ := h3.get (by simp [hp])
                obtain ⟨Y1, Y2, Y3, y1, y2, y3, e2, n2⟩ := h4.get (by simp [hp])
                subst e1 e2
                refine wpOp_go rfl rfl (fun K hK => ?_)
                go_wp2_with (first | (go_at_call 27; refine (radd_any x y X1 X2 X3 Y1 Y2 Y3 x1 x2 x3 y1 y2 y3 _ n1 n2 (zx.mono (by decide)) (zy.mono (by decide))).mono ?_; rintro e w1 ⟨A1, A2, A3, k1, k2, k3, rfl, hN, hb⟩))
                try refine hK _ _ ?_
                exact ⟨_, _, _, _, _, _, rfl, hS.ca hb (by decide) (by decide), h0.caP hb (by decide), h1.caP hb (by decide), h2.caP hb (by decide), h3.caR hb (by decide), h4.caR hb (by decide), On.new ⟨A1, A2, A3, k1, k2, k3, rfl, hN⟩, hx.mono (by decide), hy.mono (by decide), by simp [hz]⟩
              · obtain ⟨c, v1, v2, v3, v4, ⟨c0, c1, c2, c3, c4⟩, ⟨f0, f1, f2, f3, f4⟩⟩ := hS.boolP (off hoff)
                obtain ⟨A1, A2, A3, e1, n1⟩ := h2.get (by simp [hp])
                subst e1
                refine wpOp_go rfl rfl (fun K hK => ?_)
                go_simp
                refine hK _ _ ?_
                obtain ⟨X, hX⟩ : ∃ X : World, X = set5 W' g9 (x.add y) A1 A2 A3 := ⟨_, rfl⟩
                have hw : set5 W' g9 (x.add y) A1 A2 A3 = X := hX.symm
                unfold set5 at hw
                rw [hw]
                subst hX
                exact ⟨_, _, _, _, _, _, rfl, hS.stP (off hoff) (by omega) (by decide) n1, h0.sP c0 (by decide), h1.sP c0 (by decide), h2.sP c0 (by decide), h3.sR c0 (by decide), h4.sR c0 (by decide), h5.sR c0 (by decide), On.new (on_mono (by simp [hp])), hy.mono (by decide), by simp [hz]⟩
              · obtain ⟨c, v1, v2, v3, v4, ⟨c0, c1, c2, c3, c4⟩, ⟨f0, f1, f2, f3, f4⟩⟩ := hS.boolR (off hoff)
                obtain ⟨A1, A2, A3, k1, k2, k3, e1, n1⟩ := h5.get (by simp [hp])
                subst e1
                refine wpOp_go rfl rfl (fun K hK => ?_)
                go_simp
                refine hK _ _ ?_
                obtain ⟨X, hX⟩ : ∃ X : World, X = set5c W' g11 (x.add y) A1 A2 A3 k1 k2 k3 := ⟨_, rfl⟩
                have hw : set5c W' g11 (x.add y) A1 A2 A3 k1 k2 k3 = X := hX.symm
                unfold set5c at hw
                rw [hw]
                subst hX
                exact ⟨_, _, _, _, _, _, rfl, hS.stR (off hoff) (by omega) (by decide) n1, h0.cP c0 (by decide), h1.cP c0 (by decide), h2.cP c0 (by decide), h3.cR c0 (by decide), h4.cR c0 (by decide), h5.cR c0 (by decide), hx.mono (by decide), On.new (on_mono (by simp [hp])), by simp [hz]⟩
            · intro l a' W' hr hI
              obtain ⟨q0, q1, q2, q3, q4, q5, rfl, hS, h0, h1, h2, h3, h4, h5, hx, hy, hz⟩ := hI
              have a0 := not_ready (i := 0) hr hz rfl (by simp [Region.binds])
              have a1 := not_ready (i := 1) hr hz rfl (by simp [Region.binds, a0])
              have a2 := not_ready (i := 2) hr hz rfl (by simp [Region.binds, a0, a1])
              have a3 := not_ready (i := 3) hr hz rfl (by simp [Region.binds, a0, a1, a2])
              have a4 := not_ready (i := 4) hr hz rfl (by simp [Region.binds, a0, a1, a2, a3])
              have a5 := not_ready (i := 5) hr hz rfl (by simp [Region.binds, a0, a1, a2, a3, a4])
              have a6 := not_ready (i := 6) hr hz rfl (by simp [Region.binds, a0, a1, a2, a3, a4, a5])
              have a7 := not_ready (i := 7) hr hz rfl (by simp [Region.binds, a0, a1, a2, a3, a4, a5, a6])
              obtain ⟨⟨_, k1⟩, k2, ⟨_, k3⟩, k4, k5, _⟩ := hS
              have k1 := k1.get a6; have k3 := k3.get a7
              clear hr hz a0 a1 a2 a3 a4 a5 a6 a7 h0 h1 h2 h3 h4 h5 hx hy
              go_wp2_with fail
              go_meet
              exact ⟨x.add y, 0, rfl, rfl, (sz_add zx zy).mono (by decide), k1, k2, k3, k4, k5⟩
            · exact ⟨_, _, _, _, _, _, rfl, Sw.start v9 v10 v11 v12 HF.out HD.out H9.out, fun h => absurd h (by decide), fun h => absurd h (by decide), fun h => absurd h (by decide), fun h => absurd h (by decide), fun h => absurd h (by decide), fun h => absurd h (by decide), fun h => absurd h (by decide), fun h => absurd h (by decide), by simp⟩
        · as_aux_lemma =>
            go_upto_region 15 with fail
            clear t9
            refine wp_region_any (by kernel_rfl) ?_
            refine wpAny_inv (fun l a' w' => ∃ q0 q1 q2 q3 q4 q5 : Value, a' = ⟨List.toArray (.slice A n c :: .slice (some ⟨b, fo, none⟩) m d :: undef :: undef :: u4 :: .slice (some ⟨gl', 0, none⟩) n' cl :: .slice (some ⟨gm', 0, none⟩) n' cm :: undef :: .pointer (some ⟨g8, 0, none⟩) :: .pointer (some ⟨g9, 0, none⟩) :: .pointer (some ⟨g10, 0, none⟩) :: .pointer (some ⟨g11, 0, none⟩) :: .pointer (some ⟨g12, 0, none⟩) :: .int .i64 0 :: .int .i64 0 :: .slice A n c :: .int .i64 ↑n :: .bool false :: .bool false :: .slice A n c :: .int .i64 ↑n :: .bool false :: .bool false :: .bool false :: .slice (some ⟨b, fo, none⟩) m d :: .int .i64 ↑m :: .bool false :: .bool false :: undef :: .slice A n c :: .slice (some ⟨gl, 0, none⟩) n n :: .slice A n c :: .slice (some ⟨gm, 0, none⟩) n n :: .slice (some ⟨b, fo, none⟩) m d :: .int .i64 ↑m :: .int .i64 ↑k :: u36 :: u37 :: u38 :: u39 :: u40 :: u41 :: u42 :: u43 :: u44 :: u45 :: u46 :: u47 :: u48 :: u49 :: u50 :: u51 :: u52 :: u53 :: u54 :: u55 :: u56 :: u57 :: u58 :: u59 :: u60 :: u61 :: u62 :: u63 :: u64 :: u65 :: u66 :: u67 :: u68 :: u69 :: u70 :: u71 :: u72 :: u73 :: u74 :: .pointer (some ⟨g8, 0, none⟩) :: .int .u8 kk :: .int .u8 (kk % 9) :: u78 :: u79 :: u80 :: u81 :: .bool false :: .bool false :: u84 :: u85 :: u86 :: u87 :: u88 :: u89 :: .bool true :: .bool true :: q0 :: q1 :: q2 :: q3 :: q4 :: q5 :: u98 :: u99 :: u100 :: u101 :: u102 :: u103 :: u104 :: u105 :: u106 :: u107 :: u108 :: u109 :: u110 :: u111 :: u112 :: u113 :: u114 :: u115 :: u116 :: u117 :: u118 :: u119 :: u120 :: u121 :: u122 :: u123 :: u124 :: u125 :: u126 :: u127 :: u128 :: u129 :: u130 :: u131 :: u132 :: u133 :: u134 :: u135 :: u136 :: u137 :: u138 :: u139 :: u140 :: u141 :: u142 :: u143 :: u144 :: u145 :: u146 :: u147 :: u148 :: u149 :: u150 :: u151 :: u152 :: u153 :: u154 :: u155 :: u156 :: u157 :: u158 :: u159 :: u160 :: u161 :: u162 :: u163 :: u164 :: u165 :: u166 :: u167 :: u168 :: u169 :: u170 :: u171 :: u172 :: u173 :: u174 :: u175 :: u176 :: u177 :: u178 :: u179 :: u180 :: u181 :: u182 :: u183 :: u184 :: u185 :: u186 :: u187 :: u188 :: u189 :: u190 :: u191 :: u192 :: u193 :: u194 :: u195 :: u196 :: u197 :: u198 :: u199 :: u200 :: u201 :: u202 :: u203 :: u204 :: u205 :: u206 :: u207 :: u208 :: u209 :: u210 :: u211 :: u212 :: undef :: []), []⟩ ∧ Sw l 6 7 W g9 g10 g11 g12 x y (x.sub y) w' ∧ On l 0 (SlotNum w' q0 (x)) ∧ On l 1 (SlotNum w' q1 (y)) ∧ On l 2 (SlotNum w' q2 (x.sub y)) ∧ On l 3 (SlotNumC w' q3 (x)) ∧ On l 4 (SlotNumC w' q4 (y)) ∧ On l 5 (SlotNumC w' q5 (x.sub y)) ∧ On l 6 (on l 0 = true) ∧ On l 7 (on l 3 = true) ∧ l.size = 8) ?_ ?_ _ _ _ _ (by decide) ?_
            · intro l a' W' i hi hI
              obtain ⟨q0, q1, q2, q3, q4, q5, rfl, hS, h0, h1, h2, h3, h4, h5, hx, hy, hz⟩ := hI
              obtain ⟨hlt, hoff, hpre⟩ := ready_pre hi
              have hc : i = 0 ∨ i = 1 ∨ i = 2 ∨ i = 3 ∨ i = 4 ∨ i = 5 ∨ i = 6 ∨ i = 7 := by have : i < 8 := hlt; omega
              clear hi
              rcases hc with rfl | rfl | rfl | rfl | rfl | rfl | rfl | rfl <;> (have hp := hpre _ rfl; simp [Region.binds] at hp; clear hpre)
              · obtain ⟨A1, A2, A3, ⟨c0, c1, c2, c3, c4⟩, n1⟩ := (hS.1.1.get (fun h => off hoff (hx.get h))).slot
                refine wpOp_go rfl rfl (fun K hK => ?_)
                go_simp
                refine hK _ _ ?_
                exact ⟨_, _, _, _, _, _, rfl, hS.ld (by decide) (by decide), On.new ⟨A1, A2, A3, rfl, n1⟩, h1.keep (by decide), h2.keep (by decide), h3.keep (by decide), h4.keep (by decide), h5.keep (by decide), hx.mono (by decide), hy.mono (by decide), by simp [hz]⟩
              · obtain ⟨A1, A2, A3, ⟨c0, c1, c2, c3, c4⟩, n1⟩ := hS.2.1.slot
                refine wpOp_go rfl rfl (fun K hK => ?_)
                go_simp
                refine hK _ _ ?_
                exact ⟨_, _, _, _, _, _, rfl, hS.ld (by decide) (by decide), h0.keep (by decide), On.new ⟨A1, A2, A3, rfl, n1⟩, h2.keep (by decide), h3.keep (by decide), h4.keep (by decide), h5.keep (by decide), hx.mono (by decide), hy.mono (by decide), by simp [hz]⟩
              · obtain ⟨X1, X2, X3, e1, n1⟩ := h0.get (by simp [hp])
                obtain ⟨Y1, Y2, Y3, e2, n2⟩ := h1.get (by simp [hp])
                subst e1 e2
                refine wpOp_go rfl rfl (fun K hK => ?_)
                go_wp2_with (first | (go_at_call 28; refine (sub_num x y X1 X2 X3 Y1 Y2 Y3 _ n1 n2 (zx.mono (by decide)) (zy.mono (by decide))).mono ?_; rintro e w1 ⟨A1, A2, A3, rfl, hN, hb⟩))
                try refine hK _ _ ?_
                exact ⟨_, _, _, _, _, _, rfl, hS.ca hb (by decide) (by decide), h0.caP hb (by decide), h1.caP hb (by decide), On.new ⟨A1, A2, A3, rfl, hN⟩, h3.caR hb (by decide), h4.caR hb (by decide), h5.caR hb (by decide), hx.mono (by decide), hy.mono (by decide), by simp [hz]⟩
              · obtain ⟨A1, A2, A3, k1, k2, k3, ⟨c0, c1, c2, c3, c4⟩, n1⟩ := (hS.2.2.1.1.get (fun h => off hoff (hy.get h))).slot
                refine wpOp_go rfl rfl (fun K hK => ?_)
                go_simp
                refine hK _ _ ?_
                exact ⟨_, _, _, _, _, _, rfl, hS.ld (by decide) (by decide), h0.keep (by decide), h1.keep (by decide), h2.keep (by decide), On.new ⟨A1, A2, A3, k1, k2, k3, rfl, n1⟩, h4.keep (by decide), h5.keep (by decide), hx.mono (by decide), hy.mono (by decide), by simp [hz]⟩
              · obtain ⟨A1, A2, A3, k1, k2, k3, ⟨c0, c1, c2, c3, c4⟩, n1⟩ := hS.2.2.2.1.slot
                refine wpOp_go rfl rfl (fun K hK => ?_)
                go_simp
                refine hK _ _ ?_
                exact ⟨_, _, _, _, _, _, rfl, hS.ld (by decide) (by decide), h0.keep (by decide), h1.keep (by decide), h2.keep (by decide), h3.keep (by decide), On.new ⟨A1, A2, A3, k1, k2, k3, rfl, n1⟩, h5.keep (by decide), hx.mono (by decide), hy.mono (by decide), by simp [hz]⟩
              · obtain ⟨X1, X2, X3, x1, x2, x3, e1, n1⟩ := h3.get (by simp [hp])
                obtain ⟨Y1, Y2, Y3, y1, y2, y3, e2, n2⟩ := h4.get (by simp [hp])
                subst e1 e2
                refine wpOp_go rfl rfl (fun K hK => ?_)
                go_wp2_with (first | (go_at_call 29; refine (rsub_num x y X1 X2 X3 Y1 Y2 Y3 x1 x2 x3 y1 y2 y3 _ n1 n2 (zx.mono (by decide)) (zy.mono (by decide))).mono ?_; rintro e w1 ⟨A1, A2, A3, k1, k2, k3, rfl, hN, hb⟩))
                try refine hK _ _ ?_
                exact ⟨_, _, _, _, _, _, rfl, hS.ca hb (by decide) (by decide), h0.caP hb (by decide), h1.caP hb (by decide), h2.caP hb (by decide), h3.caR hb (by decide), h4.caR hb (by decide), On.new ⟨A1, A2, A3, k1, k2, k3, rfl, hN⟩, hx.mono (by decide), hy.mono (by decide), by simp [hz]⟩
              · obtain ⟨c, v1, v2, v3, v4, ⟨c0, c1, c2, c3, c4⟩, ⟨f0, f1, f2, f3, f4⟩⟩ := hS.boolP (off hoff)
                obtain ⟨A1, A2, A3, e1, n1⟩ := h2.get (by simp [hp])
                subst e1
                refine wpOp_go rfl rfl (fun K hK => ?_)
                go_simp
                refine hK _ _ ?_
                obtain ⟨X, hX⟩ : ∃ X : World, X = set5 W' g9 (x.sub y) A1 A2 A3 := ⟨_, rfl⟩
                have hw : set5 W' g9 (x.sub y) A1 A2 A3 = X := hX.symm
                unfold set5 at hw
                rw [hw]
                subst hX
                exact ⟨_, _, _, _, _, _, rfl, hS.stP (off hoff) (by omega) (by decide) n1, h0.sP c0 (by decide), h1.sP c0 (by decide), h2.sP c0 (by decide), h3.sR c0 (by decide), h4.sR c0 (by decide), h5.sR c0 (by decide), On.new (on_mono (by simp [hp])), hy.mono (by decide), by simp [hz]⟩
              · obtain ⟨c, v1, v2, v3, v4, ⟨c0, c1, c2, c3, c4⟩, ⟨f0, f1, f2, f3, f4⟩⟩ := hS.boolR (off hoff)
                obtain ⟨A1, A2, A3, k1, k2, k3, e1, n1⟩ := h5.get (by simp [hp])
                subst e1
                refine wpOp_go rfl rfl (fun K hK => ?_)
                go_simp
                refine hK _ _ ?_
                obtain ⟨X, hX⟩ : ∃ X : World, X = set5c W' g11 (x.sub y) A1 A2 A3 k1 k2 k3 := ⟨_, rfl⟩
                have hw : set5c W' g11 (x.sub y) A1 A2 A3 k1 k2 k3 = X := hX.symm
                unfold set5c at hw
                rw [hw]
                subst hX
                exact ⟨_, _, _, _, _, _, rfl, hS.stR (off hoff) (by omega) (by decide) n1, h0.cP c0 (by decide), h1.cP c0 (by decide), h2.cP c0 (by decide), h3.cR c0 (by decide), h4.cR c0 (by decide), h5.cR c0 (by decide), hx.mono (by decide), On.new (on_mono (by simp [hp])), by simp [hz]⟩
            · intro l a' W' hr hI
              obtain ⟨q0, q1, q2, q3, q4, q5, rfl, hS, h0, h1, h2, h3, h4, h5, hx, hy, hz⟩ := hI
              have a0 := not_ready (i := 0) hr hz rfl (by simp [Region.binds])
              have a1 := not_ready (i := 1) hr hz rfl (by simp [Region.binds, a0])
              have a2 := not_ready (i := 2) hr hz rfl (by simp [Region.binds, a0, a1])
              have a3 := not_ready (i := 3) hr hz rfl (by simp [Region.binds, a0, a1, a2])
              have a4 := not_ready (i := 4) hr hz rfl (by simp [Region.binds, a0, a1, a2, a3])
              have a5 := not_ready (i := 5) hr hz rfl (by simp [Region.binds, a0, a1, a2, a3, a4])
              have a6 := not_ready (i := 6) hr hz rfl (by simp [Region.binds, a0, a1, a2, a3, a4, a5])
              have a7 := not_ready (i := 7) hr hz rfl (by simp [Region.binds, a0, a1, a2, a3, a4, a5, a6])
              obtain ⟨⟨_, k1⟩, k2, ⟨_, k3⟩, k4, k5, _⟩ := hS
              have k1 := k1.get a6; have k3 := k3.get a7
              clear hr hz a0 a1 a2 a3 a4 a5 a6 a7 h0 h1 h2 h3 h4 h5 hx hy
              go_wp2_with fail
              go_meet
              exact ⟨x.sub y, 0, rfl, rfl, (sz_sub zx zy).mono (by decide), k1, k2, k3, k4, k5⟩
            · exact ⟨_, _, _, _, _, _, rfl, Sw.start v9 v10 v11 v12 HF.out HD.out H9.out, fun h => absurd h (by decide), fun h => absurd h (by decide), fun h => absurd h (by decide), fun h => absurd h (by decide), fun h => absurd h (by decide), fun h => absurd h (by decide), fun h => absurd h (by decide), fun h => absurd h (by decide), by simp⟩
        · as_aux_lemma =>
            go_upto_region 17 with fail
            clear t9
            refine wp_region_any (by kernel_rfl) ?_
            refine wpAny_inv (fun l a' w' => ∃ q0 q1 q2 q3 q4 q5 : Value, a' = ⟨List.toArray (.slice A n c :: .slice (some ⟨b, fo, none⟩) m d :: undef :: undef :: u4 :: .slice (some ⟨gl', 0, none⟩) n' cl :: .slice (some ⟨gm', 0, none⟩) n' cm :: undef :: .pointer (some ⟨g8, 0, none⟩) :: .pointer (some ⟨g9, 0, none⟩) :: .pointer (some ⟨g10, 0, none⟩) :: .pointer (some ⟨g11, 0, none⟩) :: .pointer (some ⟨g12, 0, none⟩) :: .int .i64 0 :: .int .i64 0 :: .slice A n c :: .int .i64 ↑n :: .bool false :: .bool false :: .slice A n c :: .int .i64 ↑n :: .bool false :: .bool false :: .bool false :: .slice (some ⟨b, fo, none⟩) m d :: .int .i64 ↑m :: .bool false :: .bool false :: undef :: .slice A n c :: .slice (some ⟨gl, 0, none⟩) n n :: .slice A n c :: .slice (some ⟨gm, 0, none⟩) n n :: .slice (some ⟨b, fo, none⟩) m d :: .int .i64 ↑m :: .int .i64 ↑k :: u36 :: u37 :: u38 :: u39 :: u40 :: u41 :: u42 :: u43 :: u44 :: u45 :: u46 :: u47 :: u48 :: u49 :: u50 :: u51 :: u52 :: u53 :: u54 :: u55 :: u56 :: u57 :: u58 :: u59 :: u60 :: u61 :: u62 :: u63 :: u64 :: u65 :: u66 :: u67 :: u68 :: u69 :: u70 :: u71 :: u72 :: u73 :: u74 :: .pointer (some ⟨g8, 0, none⟩) :: .int .u8 kk :: .int .u8 (kk % 9) :: u78 :: u79 :: u80 :: u81 :: .bool false :: .bool false :: u84 :: u85 :: u86 :: u87 :: u88 :: u89 :: .bool false :: .bool false :: u92 :: u93 :: u94 :: u95 :: u96 :: u97 :: .bool true :: .bool true :: q0 :: q1 :: q2 :: q3 :: q4 :: q5 :: u106 :: u107 :: u108 :: u109 :: u110 :: u111 :: u112 :: u113 :: u114 :: u115 :: u116 :: u117 :: u118 :: u119 :: u120 :: u121 :: u122 :: u123 :: u124 :: u125 :: u126 :: u127 :: u128 :: u129 :: u130 :: u131 :: u132 :: u133 :: u134 :: u135 :: u136 :: u137 :: u138 :: u139 :: u140 :: u141 :: u142 :: u143 :: u144 :: u145 :: u146 :: u147 :: u148 :: u149 :: u150 :: u151 :: u152 :: u153 :: u154 :: u155 :: u156 :: u157 :: u158 :: u159 :: u160 :: u161 :: u162 :: u163 :: u164 :: u165 :: u166 :: u167 :: u168 :: u169 :: u170 :: u171 :: u172 :: u173 :: u174 :: u175 :: u176 :: u177 :: u178 :: u179 :: u180 :: u181 :: u182 :: u183 :: u184 :: u185 :: u186 :: u187 :: u188 :: u189 :: u190 :: u191 :: u192 :: u193 :: u194 :: u195 :: u196 :: u197 :: u198 :: u199 :: u200 :: u201 :: u202 :: u203 :: u204 :: u205 :: u206 :: u207 :: u208 :: u209 :: u210 :: u211 :: u212 :: undef :: []), []⟩ ∧ Sw l 6 7 W g9 g10 g11 g12 x y (x.mul y) w' ∧ On l 0 (SlotNum w' q0 (x)) ∧ On l 1 (SlotNum w' q1 (y)) ∧ On l 2 (SlotNum w' q2 (x.mul y)) ∧ On l 3 (SlotNumC w' q3 (x)) ∧ On l 4 (SlotNumC w' q4 (y)) ∧ On l 5 (SlotNumC w' q5 (x.mul y)) ∧ On l 6 (on l 0 = true) ∧ On l 7 (on l 3 = true) ∧ l.size = 8) ?_ ?_ _ _ _ _ (by decide) ?_
            · intro l a' W' i hi hI
              obtain ⟨q0, q1, q2, q3, q4, q5, rfl, hS, h0, h1, h2, h3, h4, h5, hx, hy, hz⟩ := hI
              obtain ⟨hlt, hoff, hpre⟩ := ready_pre hi
              have hc : i = 0 ∨ i = 1 ∨ i = 2 ∨ i = 3 ∨ i = 4 ∨ i = 5 ∨ i = 6 ∨ i = 7 := by have : i < 8 := hlt; omega
              clear hi
              rcases hc with rfl | rfl | rfl | rfl | rfl | rfl | rfl | rfl <;> (have hp := hpre _ rfl; simp [Region.binds] at hp; clear hpre)
              · obtain ⟨A1, A2, A3, ⟨c0, c1, c2, c3, c4⟩, n1⟩ := (hS.1.1.get (fun h => off hoff (hx.get h))).slot
                refine wpOp_go rfl rfl (fun K hK => ?_)
                go_simp
                refine hK _ _ ?_
                exact ⟨_, _, _, _, _, _, rfl, hS.ld (by decide) (by decide), On.new ⟨A1, A2, A3, rfl, n1⟩, h1.keep (by decide), h2.keep (by decide), h3.keep (by decide), h4.keep (by decide), h5.keep (by decide), hx.mono (by decide), hy.mono (by decide), by simp [hz]⟩
              · obtain ⟨A1, A2, A3, ⟨c0, c1, c2, c3, c4⟩, n1⟩ := hS.2.1.slot
                refine wpOp_go rfl rfl (fun K hK => ?_)
                go_simp
                refine hK _ _ ?_
                exact ⟨_, _, _, _, _, _, rfl, hS.ld (by decide) (by decide), h0.keep (by decide), On.new ⟨A1, A2, A3, rfl, n1⟩, h2.keep (by decide), h3.keep (by decide), h4.keep (by decide), h5.keep (by decide), hx.mono (by decide), hy.mono (by decide), by simp [hz]⟩
              · obtain ⟨X1, X2, X3, e1, n1⟩ := h0.get (by simp [hp])
                obtain ⟨Y1, Y2, Y3, e2, n2⟩ := h1.get (by simp [hp])
                subst e1 e2
                refine wpOp_go rfl rfl (fun K hK => ?_)
                go_wp2_with (first | (go_at_call 30; refine (mul_num x y X1 X2 X3 Y1 Y2 Y3 _ n1 n2 (zx.mono (by decide)) (zy.mono (by decide))).mono ?_; rintro e w1 ⟨A1, A2, A3, rfl, hN, hb⟩))
                try refine hK _ _ ?_
                exact ⟨_, _, _, _, _, _, rfl, hS.ca hb (by decide) (by decide), h0.caP hb (by decide), h1.caP hb (by decide), On.new ⟨A1, A2, A3, rfl, hN⟩, h3.caR hb (by decide), h4.caR hb (by decide), h5.caR hb (by decide), hx.mono (by decide), hy.mono (by decide), by simp [hz]⟩
              · obtain ⟨A1, A2, A3, k1, k2, k3, ⟨c0, c1, c2, c3, c4⟩, n1⟩ := (hS.2.2.1.1.get (fun h => off hoff (hy.get h))).slot
                refine wpOp_go rfl rfl (fun K hK => ?_)
                go_simp
                refine hK _ _ ?_
                exact ⟨_, _, _, _, _, _, rfl, hS.ld (by decide) (by decide), h0.keep (by decide), h1.keep (by decide), h2.keep (by decide), On.new ⟨A1, A2, A3, k1, k2, k3, rfl, n1⟩, h4.keep (by decide), h5.keep (by decide), hx.mono (by decide), hy.mono (by decide), by simp [hz]⟩
              · obtain ⟨A1, A2, A3, k1, k2, k3, ⟨c0, c1, c2, c3, c4⟩, n1⟩ := hS.2.2.2.1.slot
                refine wpOp_go rfl rfl (fun K hK => ?_)
                go_simp
                refine hK _ _ ?_
                exact ⟨_, _, _, _, _, _, rfl, hS.ld (by decide) (by decide), h0.keep (by decide), h1.keep (by decide), h2.keep (by decide), h3.keep (by decide), On.new ⟨A1, A2, A3, k1, k2, k3, rfl, n1⟩, h5.keep (by decide), hx.mono (by decide), hy.mono (by decide), by simp [hz]⟩
              · obtain ⟨X1, X2, X3, x1, x2, x3, e1, n1⟩ := h3.get (by simp [hp])
                obtain ⟨Y1, Y2, Y3, y1, y2, y3, e2, n2⟩ := h4.get (by simp [hp])
                subst e1 e2
                refine wpOp_go rfl rfl (fun K hK => ?_)
                go_wp2_with (first | (go_at_call 31; refine (rmul_any x y X1 X2 X3 Y1 Y2 Y3 x1 x2 x3 y1 y2 y3 _ n1 n2 (zx.mono (by decide)) (zy.mono (by decide))).mono ?_; rintro e w1 ⟨A1, A2, A3, k1, k2, k3, rfl, hN, hb⟩))
                try refine hK _ _ ?_
                exact ⟨_, _, _, _, _, _, rfl, hS.ca hb (by decide) (by decide), h0.caP hb (by decide), h1.caP hb (by decide), h2.caP hb (by decide), h3.caR hb (by decide), h4.caR hb (by decide), On.new ⟨A1, A2, A3, k1, k2, k3, rfl, hN⟩, hx.mono (by decide), hy.mono (by decide), by simp [hz]⟩
              · obtain ⟨c, v1, v2, v3, v4, ⟨c0, c1, c2, c3, c4⟩, ⟨f0, f1, f2, f3, f4⟩⟩ := hS.boolP (off hoff)
                obtain ⟨A1, A2, A3, e1, n1⟩ := h2.get (by simp [hp])
                subst e1
                refine wpOp_go rfl rfl (fun K hK => ?_)
                go_simp
                refine hK _ _ ?_
                obtain ⟨X, hX⟩ : ∃ X : World, X = set5 W' g9 (x.mul y) A1 A2 A3 := ⟨_, rfl⟩
                have hw : set5 W' g9 (x.mul y) A1 A2 A3 = X := hX.symm
                unfold set5 at hw
                rw [hw]
                subst hX
                exact ⟨_, _, _, _, _, _, rfl, hS.stP (off hoff) (by omega) (by decide) n1, h0.sP c0 (by decide), h1.sP c0 (by decide), h2.sP c0 (by decide), h3.sR c0 (by decide), h4.sR c0 (by decide), h5.sR c0 (by decide), On.new (on_mono (by simp [hp])), hy.mono (by decide), by simp [hz]⟩
              · obtain ⟨c, v1, v2, v3, v4, ⟨c0, c1, c2, c3, c4⟩, ⟨f0, f1, f2, f3, f4⟩⟩ := hS.boolR (off hoff)
                obtain ⟨A1, A2, A3, k1, k2, k3, e1, n1⟩ := h5.get (by simp [hp])
                subst e1
                refine wpOp_go rfl rfl (fun K hK => ?_)
                go_simp
                refine hK _ _ ?_
                obtain ⟨X, hX⟩ : ∃ X : World, X = set5c W' g11 (x.mul y) A1 A2 A3 k1 k2 k3 := ⟨_, rfl⟩
                have hw : set5c W' g11 (x.mul y) A1 A2 A3 k1 k2 k3 = X := hX.symm
                unfold set5c at hw
                rw [hw]
                subst hX
                exact ⟨_, _, _, _, _, _, rfl, hS.stR (off hoff) (by omega) (by decide) n1, h0.cP c0 (by decide), h1.cP c0 (by decide), h2.cP c0 (by decide), h3.cR c0 (by decide), h4.cR c0 (by decide), h5.cR c0 (by decide), hx.mono (by decide), On.new (on_mono (by simp [hp])), by simp [hz]⟩
            · intro l a' W' hr hI
              obtain ⟨q0, q1, q2, q3, q4, q5, rfl, hS, h0, h1, h2, h3, h4, h5, hx, hy, hz⟩ := hI
              have a0 := not_ready (i := 0) hr hz rfl (by simp [Region.binds])
              have a1 := not_ready (i := 1) hr hz rfl (by simp [Region.binds, a0])
              have a2 := not_ready (i := 2) hr hz rfl (by simp [Region.binds, a0, a1])
              have a3 := not_ready (i := 3) hr hz rfl (by simp [Region.binds, a0, a1, a2])
              have a4 := not_ready (i := 4) hr hz rfl (by simp [Region.binds, a0, a1, a2, a3])
              have a5 := not_ready (i := 5) hr hz rfl (by simp [Region.binds, a0, a1, a2, a3, a4])
              have a6 := not_ready (i := 6) hr hz rfl (by simp [Region.binds, a0, a1, a2, a3, a4, a5])
              have a7 := not_ready (i := 7) hr hz rfl (by simp [Region.binds, a0, a1, a2, a3, a4, a5, a6])
              obtain ⟨⟨_, k1⟩, k2, ⟨_, k3⟩, k4, k5, _⟩ := hS
              have k1 := k1.get a6; have k3 := k3.get a7
              clear hr hz a0 a1 a2 a3 a4 a5 a6 a7 h0 h1 h2 h3 h4 h5 hx hy
              go_wp2_with fail
              go_meet
              exact ⟨x.mul y, 0, rfl, rfl, (sz_mul zx zy).mono (by decide), k1, k2, k3, k4, k5⟩
            · exact ⟨_, _, _, _, _, _, rfl, Sw.start v9 v10 v11 v12 HF.out HD.out H9.out, fun h => absurd h (by decide), fun h => absurd h (by decide), fun h => absurd h (by decide), fun h => absurd h (by decide), fun h => absurd h (by decide), fun h => absurd h (by decide), fun h => absurd h (by decide), fun h => absurd h (by decide), by simp⟩
        · as_aux_lemma =>
            go_upto_region 19 with fail
            clear t9
            by_cases h0 : y = Cx.zero
            · have h9 := H9.out; have n9d := Lib.hid HD.out
              have H0 := Lib.hid h0; clear h0
              obtain ⟨x0, x1, x2, x3, x4⟩ := x9; obtain ⟨y0, y1, y2, y3, y4⟩ := x10
              go_wp2_with fail
              refine (div_zero x y A1 A2 A3 B1 B2 B3 _ n9 n10 (zx.mono (by decide)) (zy.mono (by decide)) H0.out).mono ?_
              rintro e w1 ⟨P1, P2, P3, rfl, hp, hb⟩
              replace v9 := v9.to hb; replace v10 := v10.to hb; replace v11 := v11.to hb; replace v12 := v12.to hb
              have HF1 := Lib.hid (HF.out.trans (hb.mono HF.out.size))
              clear x0 x1 x2 x3 x4 y0 y1 y2 y3 y4 n9 n10 n11 n12 x11 x12 l9 l10 l11 l12 hb HF h9
              obtain ⟨k9, ⟨cc, u1, u2, u3, u4, e0, e1, e2, e3, e4⟩, ⟨f0, f1, f2, f3, f4⟩⟩ := v9.var
              go_upto_region 20 with fail
              obtain ⟨V, hV⟩ : ∃ V : World, V = set5 w1 g9 Cx.zero P1 P2 P3 := ⟨_, rfl⟩
              have hw : set5 w1 g9 Cx.zero P1 P2 P3 = V := hV.symm
              unfold set5 at hw
              rw [hw]
              clear hw
              have p9 : HasP V g9 Cx.zero := by rw [hV]; exact v9.var.putP hp
              have p10 : HasP V g10 y := by rw [hV]; exact v10.set5 (by have := n9d.out; omega) e0
              have p11 : HasR V g11 x := by rw [hV]; exact v11.set5 (by have := n9d.out; omega) e0
              have p12 : HasR V g12 y := by rw [hV]; exact v12.set5 (by have := n9d.out; omega) e0
              have HF2 : Below W.heap.size W V := by rw [hV]; exact set5_below HF1.out H9.out
              replace HF2 := Lib.hid HF2
              clear hV v9 v10 v11 v12 e0 e1 e2 e3 e4 f0 f1 f2 f3 f4 hp k9 HF1
              obtain ⟨C1, C2, C3, c1, c2, c3, ⟨x0, x1, x2, x3, x4⟩, n11⟩ := p11.c5
              obtain ⟨D1, D2, D3, d1, d2, d3, ⟨y0, y1, y2, y3, y4⟩, n12⟩ := p12.c5
              go_wp2_with fail
              refine (rdiv_zero x y C1 C2 C3 D1 D2 D3 c1 c2 c3 d1 d2 d3 _ n11 n12 (zx.mono (by decide)) (zy.mono (by decide)) H0.out).mono ?_
              rintro e w2 ⟨Q1, Q2, Q3, k1, k2, k3, rfl, hq, hb⟩
              replace p9 := p9.to hb; replace p10 := p10.to hb; replace p11 := p11.to hb; replace p12 := p12.to hb
              replace HF2 := Lib.hid (HF2.out.trans (hb.mono HF2.out.size))
              clear x0 x1 x2 x3 x4 y0 y1 y2 y3 y4 n11 n12 hb
              obtain ⟨k9, ⟨cc, u1, u2, u3, u4, e0, e1, e2, e3, e4⟩, ⟨f0, f1, f2, f3, f4⟩⟩ := p11.var
              go_wp2_with fail
              obtain ⟨X, hX⟩ : ∃ X : World, X = set5c w2 g11 Cx.zero Q1 Q2 Q3 k1 k2 k3 := ⟨_, rfl⟩
              have hw : set5c w2 g11 Cx.zero Q1 Q2 Q3 k1 k2 k3 = X := hX.symm
              unfold set5c at hw
              rw [hw]
              clear hw
              go_meet
              exact ⟨Cx.zero, 3, rfl, rfl, sz_zero (by decide), by rw [hX]; exact p9.set5c (by have := n9d.out; omega) e0, by rw [hX]; exact p10.set5c (by have := n9d.out; omega) e0, by rw [hX]; exact p11.var.putR hq, by rw [hX]; exact p12.set5c (by have := n9d.out; omega) e0, by rw [hX]; exact set5c_below HF2.out (by have := n9d.out; have := H9.out; omega)⟩
            · have h9 := H9.out; have n9d := Lib.hid HD.out
              have H0 := Lib.hid h0; clear h0
              obtain ⟨x0, x1, x2, x3, x4⟩ := x9; obtain ⟨y0, y1, y2, y3, y4⟩ := x10
              go_wp2_with fail
              refine (div_num0 x y A1 A2 A3 B1 B2 B3 _ n9 n10 (zx.mono (by decide)) (zy.mono (by decide)) H0.out).mono ?_
              rintro e w1 ⟨P1, P2, P3, rfl, hp, hb⟩
              replace v9 := v9.to hb; replace v10 := v10.to hb; replace v11 := v11.to hb; replace v12 := v12.to hb
              have HF1 := Lib.hid (HF.out.trans (hb.mono HF.out.size))
              clear x0 x1 x2 x3 x4 y0 y1 y2 y3 y4 n9 n10 n11 n12 x11 x12 l9 l10 l11 l12 hb HF h9
              obtain ⟨k9, ⟨cc, u1, u2, u3, u4, e0, e1, e2, e3, e4⟩, ⟨f0, f1, f2, f3, f4⟩⟩ := v9.var
              go_upto_region 20 with fail
              obtain ⟨V, hV⟩ : ∃ V : World, V = set5 w1 g9 (x.div y) P1 P2 P3 := ⟨_, rfl⟩
              have hw : set5 w1 g9 (x.div y) P1 P2 P3 = V := hV.symm
              unfold set5 at hw
              rw [hw]
              clear hw
              have p9 : HasP V g9 (x.div y) := by rw [hV]; exact v9.var.putP hp
              have p10 : HasP V g10 y := by rw [hV]; exact v10.set5 (by have := n9d.out; omega) e0
              have p11 : HasR V g11 x := by rw [hV]; exact v11.set5 (by have := n9d.out; omega) e0
              have p12 : HasR V g12 y := by rw [hV]; exact v12.set5 (by have := n9d.out; omega) e0
              have HF2 : Below W.heap.size W V := by rw [hV]; exact set5_below HF1.out H9.out
              replace HF2 := Lib.hid HF2
              clear hV v9 v10 v11 v12 e0 e1 e2 e3 e4 f0 f1 f2 f3 f4 hp k9 HF1
              obtain ⟨C1, C2, C3, c1, c2, c3, ⟨x0, x1, x2, x3, x4⟩, n11⟩ := p11.c5
              obtain ⟨D1, D2, D3, d1, d2, d3, ⟨y0, y1, y2, y3, y4⟩, n12⟩ := p12.c5
              go_wp2_with fail
              refine (rdiv_num x y C1 C2 C3 D1 D2 D3 c1 c2 c3 d1 d2 d3 _ n11 n12 (zx.mono (by decide)) (zy.mono (by decide)) H0.out).mono ?_
              rintro e w2 ⟨Q1, Q2, Q3, k1, k2, k3, rfl, hq, hb⟩
              replace p9 := p9.to hb; replace p10 := p10.to hb; replace p11 := p11.to hb; replace p12 := p12.to hb
              replace HF2 := Lib.hid (HF2.out.trans (hb.mono HF2.out.size))
              clear x0 x1 x2 x3 x4 y0 y1 y2 y3 y4 n11 n12 hb
              obtain ⟨k9, ⟨cc, u1, u2, u3, u4, e0, e1, e2, e3, e4⟩, ⟨f0, f1, f2, f3, f4⟩⟩ := p11.var
              go_wp2_with fail
              obtain ⟨X, hX⟩ : ∃ X : World, X = set5c w2 g11 (x.div y) Q1 Q2 Q3 k1 k2 k3 := ⟨_, rfl⟩
              have hw : set5c w2 g11 (x.div y) Q1 Q2 Q3 k1 k2 k3 = X := hX.symm
              unfold set5c at hw
              rw [hw]
              clear hw
              go_meet
              exact ⟨(x.div y), 0, rfl, rfl, (sz_div (by decide) zx zy H0.out).mono (by decide), by rw [hX]; exact p9.set5c (by have := n9d.out; omega) e0, by rw [hX]; exact p10.set5c (by have := n9d.out; omega) e0, by rw [hX]; exact p11.var.putR hq, by rw [hX]; exact p12.set5c (by have := n9d.out; omega) e0, by rw [hX]; exact set5c_below HF2.out (by have := n9d.out; have := H9.out; omega)⟩
        · as_aux_lemma =>
            go_upto_region 22 with fail
            clear t9
            refine wp_region_any (by kernel_rfl) ?_
            refine wpAny_inv (fun l a' w' => ∃ q0 q1 q2 q3 : Value, a' = ⟨List.toArray (.slice A n c :: .slice (some ⟨b, fo, none⟩) m d :: undef :: undef :: u4 :: .slice (some ⟨gl', 0, none⟩) n' cl :: .slice (some ⟨gm', 0, none⟩) n' cm :: undef :: .pointer (some ⟨g8, 0, none⟩) :: .pointer (some ⟨g9, 0, none⟩) :: .pointer (some ⟨g10, 0, none⟩) :: .pointer (some ⟨g11, 0, none⟩) :: .pointer (some ⟨g12, 0, none⟩) :: .int .i64 0 :: .int .i64 0 :: .slice A n c :: .int .i64 ↑n :: .bool false :: .bool false :: .slice A n c :: .int .i64 ↑n :: .bool false :: .bool false :: .bool false :: .slice (some ⟨b, fo, none⟩) m d :: .int .i64 ↑m :: .bool false :: .bool false :: undef :: .slice A n c :: .slice (some ⟨gl, 0, none⟩) n n :: .slice A n c :: .slice (some ⟨gm, 0, none⟩) n n :: .slice (some ⟨b, fo, none⟩) m d :: .int .i64 ↑m :: .int .i64 ↑k :: u36 :: u37 :: u38 :: u39 :: u40 :: u41 :: u42 :: u43 :: u44 :: u45 :: u46 :: u47 :: u48 :: u49 :: u50 :: u51 :: u52 :: u53 :: u54 :: u55 :: u56 :: u57 :: u58 :: u59 :: u60 :: u61 :: u62 :: u63 :: u64 :: u65 :: u66 :: u67 :: u68 :: u69 :: u70 :: u71 :: u72 :: u73 :: u74 :: .pointer (some ⟨g8, 0, none⟩) :: .int .u8 kk :: .int .u8 (kk % 9) :: u78 :: u79 :: u80 :: u81 :: .bool false :: .bool false :: u84 :: u85 :: u86 :: u87 :: u88 :: u89 :: .bool false :: .bool false :: u92 :: u93 :: u94 :: u95 :: u96 :: u97 :: .bool false :: .bool false :: u100 :: u101 :: u102 :: u103 :: u104 :: u105 :: .bool false :: .bool false :: u108 :: u109 :: u110 :: u111 :: u112 :: u113 :: u114 :: u115 :: u116 :: u117 :: u118 :: u119 :: .bool true :: .bool true :: q0 :: q1 :: q2 :: q3 :: u126 :: u127 :: u128 :: u129 :: u130 :: u131 :: u132 :: u133 :: u134 :: u135 :: u136 :: u137 :: u138 :: u139 :: u140 :: u141 :: u142 :: u143 :: u144 :: u145 :: u146 :: u147 :: u148 :: u149 :: u150 :: u151 :: u152 :: u153 :: u154 :: u155 :: u156 :: u157 :: u158 :: u159 :: u160 :: u161 :: u162 :: u163 :: u164 :: u165 :: u166 :: u167 :: u168 :: u169 :: u170 :: u171 :: u172 :: u173 :: u174 :: u175 :: u176 :: u177 :: u178 :: u179 :: u180 :: u181 :: u182 :: u183 :: u184 :: u185 :: u186 :: u187 :: u188 :: u189 :: u190 :: u191 :: u192 :: u193 :: u194 :: u195 :: u196 :: u197 :: u198 :: u199 :: u200 :: u201 :: u202 :: u203 :: u204 :: u205 :: u206 :: u207 :: u208 :: u209 :: u210 :: u211 :: u212 :: undef :: []), []⟩ ∧ Sw l 4 5 W g9 g10 g11 g12 x y (x.neg) w' ∧ On l 0 (SlotNum w' q0 (x)) ∧ On l 1 (SlotNum w' q1 (x.neg)) ∧ On l 2 (SlotNumC w' q2 (x)) ∧ On l 3 (SlotNumC w' q3 (x.neg)) ∧ On l 4 (on l 0 = true) ∧ On l 5 (on l 2 = true) ∧ l.size = 6) ?_ ?_ _ _ _ _ (by decide) ?_
            · intro l a' W' i hi hI
              obtain ⟨q0, q1, q2, q3, rfl, hS, h0, h1, h2, h3, hx, hy, hz⟩ := hI
              obtain ⟨hlt, hoff, hpre⟩ := ready_pre hi
              have hc : i = 0 ∨ i = 1 ∨ i = 2 ∨ i = 3 ∨ i = 4 ∨ i = 5 := by have : i < 6 := hlt; omega
              clear hi
              rcases hc with rfl | rfl | rfl | rfl | rfl | rfl <;> (have hp := hpre _ rfl; simp [Region.binds] at hp; clear hpre)
              · obtain ⟨A1, A2, A3, ⟨c0, c1, c2, c3, c4⟩, n1⟩ := (hS.1.1.get (fun h => off hoff (hx.get h))).slot
                refine wpOp_go rfl rfl (fun K hK => ?_)
                go_simp
                refine hK _ _ ?_
                exact ⟨_, _, _, _, rfl, hS.ld (by decide) (by decide), On.new ⟨A1, A2, A3, rfl, n1⟩, h1.keep (by decide), h2.keep (by decide), h3.keep (by decide), hx.mono (by decide), hy.mono (by decide), by simp [hz]⟩
              · obtain ⟨X1, X2, X3, e1, n1⟩ := h0.get (by simp [hp])
                subst e1
                refine wpOp_go rfl rfl (fun K hK => ?_)
                go_wp2_with (first | (go_at_call 34; refine (neg_any x X1 X2 X3 _ n1).mono ?_; rintro e w1 ⟨A1, A2, A3, rfl, hN, hb⟩))
                try refine hK _ _ ?_
                exact ⟨_, _, _, _, rfl, hS.ca hb (by decide) (by decide), h0.caP hb (by decide), On.new ⟨A1, A2, A3, rfl, hN⟩, h2.caR hb (by decide), h3.caR hb (by decide), hx.mono (by decide), hy.mono (by decide), by simp [hz]⟩
              · obtain ⟨A1, A2, A3, k1, k2, k3, ⟨c0, c1, c2, c3, c4⟩, n1⟩ := (hS.2.2.1.1.get (fun h => off hoff (hy.get h))).slot
                refine wpOp_go rfl rfl (fun K hK => ?_)
                go_simp
                refine hK _ _ ?_
                exact ⟨_, _, _, _, rfl, hS.ld (by decide) (by decide), h0.keep (by decide), h1.keep (by decide), On.new ⟨A1, A2, A3, k1, k2, k3, rfl, n1⟩, h3.keep (by decide), hx.mono (by decide), hy.mono (by decide), by simp [hz]⟩
              · obtain ⟨X1, X2, X3, x1, x2, x3, e1, n1⟩ := h2.get (by simp [hp])
                subst e1
                refine wpOp_go rfl rfl (fun K hK => ?_)
                go_wp2_with (first | (go_at_call 35; refine (rneg_num x X1 X2 X3 x1 x2 x3 _ n1).mono ?_; rintro e w1 ⟨A1, A2, A3, k1, k2, k3, rfl, hN, hb⟩))
                try refine hK _ _ ?_
                exact ⟨_, _, _, _, rfl, hS.ca hb (by decide) (by decide), h0.caP hb (by decide), h1.caP hb (by decide), h2.caR hb (by decide), On.new ⟨A1, A2, A3, k1, k2, k3, rfl, hN⟩, hx.mono (by decide), hy.mono (by decide), by simp [hz]⟩
              · obtain ⟨c, v1, v2, v3, v4, ⟨c0, c1, c2, c3, c4⟩, ⟨f0, f1, f2, f3, f4⟩⟩ := hS.boolP (off hoff)
                obtain ⟨A1, A2, A3, e1, n1⟩ := h1.get (by simp [hp])
                subst e1
                refine wpOp_go rfl rfl (fun K hK => ?_)
                go_simp
                refine hK _ _ ?_
                obtain ⟨X, hX⟩ : ∃ X : World, X = set5 W' g9 (x.neg) A1 A2 A3 := ⟨_, rfl⟩
                have hw : set5 W' g9 (x.neg) A1 A2 A3 = X := hX.symm
                unfold set5 at hw
                rw [hw]
                subst hX
                exact ⟨_, _, _, _, rfl, hS.stP (off hoff) (by omega) (by decide) n1, h0.sP c0 (by decide), h1.sP c0 (by decide), h2.sR c0 (by decide), h3.sR c0 (by decide), On.new (on_mono (by simp [hp])), hy.mono (by decide), by simp [hz]⟩
              · obtain ⟨c, v1, v2, v3, v4, ⟨c0, c1, c2, c3, c4⟩, ⟨f0, f1, f2, f3, f4⟩⟩ := hS.boolR (off hoff)
                obtain ⟨A1, A2, A3, k1, k2, k3, e1, n1⟩ := h3.get (by simp [hp])
                subst e1
                refine wpOp_go rfl rfl (fun K hK => ?_)
                go_simp
                refine hK _ _ ?_
                obtain ⟨X, hX⟩ : ∃ X : World, X = set5c W' g11 (x.neg) A1 A2 A3 k1 k2 k3 := ⟨_, rfl⟩
                have hw : set5c W' g11 (x.neg) A1 A2 A3 k1 k2 k3 = X := hX.symm
                unfold set5c at hw
                rw [hw]
                subst hX
                exact ⟨_, _, _, _, rfl, hS.stR (off hoff) (by omega) (by decide) n1, h0.cP c0 (by decide), h1.cP c0 (by decide), h2.cR c0 (by decide), h3.cR c0 (by decide), hx.mono (by decide), On.new (on_mono (by simp [hp])), by simp [hz]⟩
            · intro l a' W' hr hI
              obtain ⟨q0, q1, q2, q3, rfl, hS, h0, h1, h2, h3, hx, hy, hz⟩ := hI
              have a0 := not_ready (i := 0) hr hz rfl (by simp [Region.binds])
              have a1 := not_ready (i := 1) hr hz rfl (by simp [Region.binds, a0])
              have a2 := not_ready (i := 2) hr hz rfl (by simp [Region.binds, a0, a1])
              have a3 := not_ready (i := 3) hr hz rfl (by simp [Region.binds, a0, a1, a2])
              have a4 := not_ready (i := 4) hr hz rfl (by simp [Region.binds, a0, a1, a2, a3])
              have a5 := not_ready (i := 5) hr hz rfl (by simp [Region.binds, a0, a1, a2, a3, a4])
              obtain ⟨⟨_, k1⟩, k2, ⟨_, k3⟩, k4, k5, _⟩ := hS
              have k1 := k1.get a4; have k3 := k3.get a5
              clear hr hz a0 a1 a2 a3 a4 a5 h0 h1 h2 h3 hx hy
              go_wp2_with fail
              go_meet
              exact ⟨x.neg, 0, rfl, rfl, (sz_neg zx).mono (by decide), k1, k2, k3, k4, k5⟩
            · exact ⟨_, _, _, _, rfl, Sw.start v9 v10 v11 v12 HF.out HD.out H9.out, fun h => absurd h (by decide), fun h => absurd h (by decide), fun h => absurd h (by decide), fun h => absurd h (by decide), fun h => absurd h (by decide), fun h => absurd h (by decide), by simp⟩
        · as_aux_lemma =>
            go_upto_region 24 with fail
            clear t9
            refine wp_region_any (by kernel_rfl) ?_
            refine wpAny_inv (fun l a' w' => ∃ q0 q1 q2 q3 : Value, a' = ⟨List.toArray (.slice A n c :: .slice (some ⟨b, fo, none⟩) m d :: undef :: undef :: u4 :: .slice (some ⟨gl', 0, none⟩) n' cl :: .slice (some ⟨gm', 0, none⟩) n' cm :: undef :: .pointer (some ⟨g8, 0, none⟩) :: .pointer (some ⟨g9, 0, none⟩) :: .pointer (some ⟨g10, 0, none⟩) :: .pointer (some ⟨g11, 0, none⟩) :: .pointer (some ⟨g12, 0, none⟩) :: .int .i64 0 :: .int .i64 0 :: .slice A n c :: .int .i64 ↑n :: .bool false :: .bool false :: .slice A n c :: .int .i64 ↑n :: .bool false :: .bool false :: .bool false :: .slice (some ⟨b, fo, none⟩) m d :: .int .i64 ↑m :: .bool false :: .bool false :: undef :: .slice A n c :: .slice (some ⟨gl, 0, none⟩) n n :: .slice A n c :: .slice (some ⟨gm, 0, none⟩) n n :: .slice (some ⟨b, fo, none⟩) m d :: .int .i64 ↑m :: .int .i64 ↑k :: u36 :: u37 :: u38 :: u39 :: u40 :: u41 :: u42 :: u43 :: u44 :: u45 :: u46 :: u47 :: u48 :: u49 :: u50 :: u51 :: u52 :: u53 :: u54 :: u55 :: u56 :: u57 :: u58 :: u59 :: u60 :: u61 :: u62 :: u63 :: u64 :: u65 :: u66 :: u67 :: u68 :: u69 :: u70 :: u71 :: u72 :: u73 :: u74 :: .pointer (some ⟨g8, 0, none⟩) :: .int .u8 kk :: .int .u8 (kk % 9) :: u78 :: u79 :: u80 :: u81 :: .bool false :: .bool false :: u84 :: u85 :: u86 :: u87 :: u88 :: u89 :: .bool false :: .bool false :: u92 :: u93 :: u94 :: u95 :: u96 :: u97 :: .bool false :: .bool false :: u100 :: u101 :: u102 :: u103 :: u104 :: u105 :: .bool false :: .bool false :: u108 :: u109 :: u110 :: u111 :: u112 :: u113 :: u114 :: u115 :: u116 :: u117 :: u118 :: u119 :: .bool false :: .bool false :: u122 :: u123 :: u124 :: u125 :: .bool true :: .bool true :: q0 :: q1 :: q2 :: q3 :: u132 :: u133 :: u134 :: u135 :: u136 :: u137 :: u138 :: u139 :: u140 :: u141 :: u142 :: u143 :: u144 :: u145 :: u146 :: u147 :: u148 :: u149 :: u150 :: u151 :: u152 :: u153 :: u154 :: u155 :: u156 :: u157 :: u158 :: u159 :: u160 :: u161 :: u162 :: u163 :: u164 :: u165 :: u166 :: u167 :: u168 :: u169 :: u170 :: u171 :: u172 :: u173 :: u174 :: u175 :: u176 :: u177 :: u178 :: u179 :: u180 :: u181 :: u182 :: u183 :: u184 :: u185 :: u186 :: u187 :: u188 :: u189 :: u190 :: u191 :: u192 :: u193 :: u194 :: u195 :: u196 :: u197 :: u198 :: u199 :: u200 :: u201 :: u202 :: u203 :: u204 :: u205 :: u206 :: u207 :: u208 :: u209 :: u210 :: u211 :: u212 :: undef :: []), []⟩ ∧ Sw l 4 5 W g9 g10 g11 g12 x y (x.conj) w' ∧ On l 0 (SlotNum w' q0 (x)) ∧ On l 1 (SlotNum w' q1 (x.conj)) ∧ On l 2 (SlotNumC w' q2 (x)) ∧ On l 3 (SlotNumC w' q3 (x.conj)) ∧ On l 4 (on l 0 = true) ∧ On l 5 (on l 2 = true) ∧ l.size = 6) ?_ ?_ _ _ _ _ (by decide) ?_
            · intro l a' W' i hi hI
              obtain ⟨q0, q1, q2, q3, rfl, hS, h0, h1, h2, h3, hx, hy, hz⟩ := hI
              obtain ⟨hlt, hoff, hpre⟩ := ready_pre hi
              have hc : i = 0 ∨ i = 1 ∨ i = 2 ∨ i = 3 ∨ i = 4 ∨ i = 5 := by have : i < 6 := hlt; omega
              clear hi
              rcases hc with rfl | rfl | rfl | rfl | rfl | rfl <;> (have hp := hpre _ rfl; simp [Region.binds] at hp; clear hpre)
              · obtain ⟨A1, A2, A3, ⟨c0, c1, c2, c3, c4⟩, n1⟩ := (hS.1.1.get (fun h => off hoff (hx.get h))).slot
                refine wpOp_go rfl rfl (fun K hK => ?_)
                go_simp
                refine hK _ _ ?_
                exact ⟨_, _, _, _, rfl, hS.ld (by decide) (by decide), On.new ⟨A1, A2, A3, rfl, n1⟩, h1.keep (by decide), h2.keep (by decide), h3.keep (by decide), hx.mono (by decide), hy.mono (by decide), by simp [hz]⟩
              · obtain ⟨X1, X2, X3, e1, n1⟩ := h0.get (by simp [hp])
                subst e1
                refine wpOp_go rfl rfl (fun K hK => ?_)
                go_wp2_with (first | (go_at_call 36; refine (conj_any x X1 X2 X3 _ n1).mono ?_; rintro e w1 ⟨A1, A2, A3, rfl, hN, hb⟩))
                try refine hK _ _ ?_
                exact ⟨_, _, _, _, rfl, hS.ca hb (by decide) (by decide), h0.caP hb (by decide), On.new ⟨A1, A2, A3, rfl, hN⟩, h2.caR hb (by decide), h3.caR hb (by decide), hx.mono (by decide), hy.mono (by decide), by simp [hz]⟩
              · obtain ⟨A1, A2, A3, k1, k2, k3, ⟨c0, c1, c2, c3, c4⟩, n1⟩ := (hS.2.2.1.1.get (fun h => off hoff (hy.get h))).slot
                refine wpOp_go rfl rfl (fun K hK => ?_)
                go_simp
                refine hK _ _ ?_
                exact ⟨_, _, _, _, rfl, hS.ld (by decide) (by decide), h0.keep (by decide), h1.keep (by decide), On.new ⟨A1, A2, A3, k1, k2, k3, rfl, n1⟩, h3.keep (by decide), hx.mono (by decide), hy.mono (by decide), by simp [hz]⟩
              · obtain ⟨X1, X2, X3, x1, x2, x3, e1, n1⟩ := h2.get (by simp [hp])
                subst e1
                refine wpOp_go rfl rfl (fun K hK => ?_)
                go_wp2_with (first | (go_at_call 37; refine (rconj_num x X1 X2 X3 x1 x2 x3 _ n1).mono ?_; rintro e w1 ⟨A1, A2, A3, k1, k2, k3, rfl, hN, hb⟩))
                try refine hK _ _ ?_
                exact ⟨_, _, _, _, rfl, hS.ca hb (by decide) (by decide), h0.caP hb (by decide), h1.caP hb (by decide), h2.caR hb (by decide), On.new ⟨A1, A2, A3, k1, k2, k3, rfl, hN⟩, hx.mono (by decide), hy.mono (by decide), by simp [hz]⟩
              · obtain ⟨c, v1, v2, v3, v4, ⟨c0, c1, c2, c3, c4⟩, ⟨f0, f1, f2, f3, f4⟩⟩ := hS.boolP (off hoff)
                obtain ⟨A1, A2, A3, e1, n1⟩ := h1.get (by simp [hp])
                subst e1
                refine wpOp_go rfl rfl (fun K hK => ?_)
                go_simp
                refine hK _ _ ?_
                obtain ⟨X, hX⟩ : ∃ X : World, X = set5 W' g9 (x.conj) A1 A2 A3 := ⟨_, rfl⟩
                have hw : set5 W' g9 (x.conj) A1 A2 A3 = X := hX.symm
                unfold set5 at hw
                rw [hw]
                subst hX
                exact ⟨_, _, _, _, rfl, hS.stP (off hoff) (by omega) (by decide) n1, h0.sP c0 (by decide), h1.sP c0 (by decide), h2.sR c0 (by decide), h3.sR c0 (by decide), On.new (on_mono (by simp [hp])), hy.mono (by decide), by simp [hz]⟩
              · obtain ⟨c, v1, v2, v3, v4, ⟨c0, c1, c2, c3, c4⟩, ⟨f0, f1, f2, f3, f4⟩⟩ := hS.boolR (off hoff)
                obtain ⟨A1, A2, A3, k1, k2, k3, e1, n1⟩ := h3.get (by simp [hp])
                subst e1
                refine wpOp_go rfl rfl (fun K hK => ?_)
                go_simp
                refine hK _ _ ?_
                obtain ⟨X, hX⟩ : ∃ X : World, X = set5c W' g11 (x.conj) A1 A2 A3 k1 k2 k3 := ⟨_, rfl⟩
                have hw : set5c W' g11 (x.conj) A1 A2 A3 k1 k2 k3 = X := hX.symm
                unfold set5c at hw
                rw [hw]
                subst hX
                exact ⟨_, _, _, _, rfl, hS.stR (off hoff) (by omega) (by decide) n1, h0.cP c0 (by decide), h1.cP c0 (by decide), h2.cR c0 (by decide), h3.cR c0 (by decide), hx.mono (by decide), On.new (on_mono (by simp [hp])), by simp [hz]⟩
            · intro l a' W' hr hI
              obtain ⟨q0, q1, q2, q3, rfl, hS, h0, h1, h2, h3, hx, hy, hz⟩ := hI
              have a0 := not_ready (i := 0) hr hz rfl (by simp [Region.binds])
              have a1 := not_ready (i := 1) hr hz rfl (by simp [Region.binds, a0])
              have a2 := not_ready (i := 2) hr hz rfl (by simp [Region.binds, a0, a1])
              have a3 := not_ready (i := 3) hr hz rfl (by simp [Region.binds, a0, a1, a2])
              have a4 := not_ready (i := 4) hr hz rfl (by simp [Region.binds, a0, a1, a2, a3])
              have a5 := not_ready (i := 5) hr hz rfl (by simp [Region.binds, a0, a1, a2, a3, a4])
              obtain ⟨⟨_, k1⟩, k2, ⟨_, k3⟩, k4, k5, _⟩ := hS
              have k1 := k1.get a4; have k3 := k3.get a5
              clear hr hz a0 a1 a2 a3 a4 a5 h0 h1 h2 h3 hx hy
              go_wp2_with fail
              go_meet
              exact ⟨x.conj, 0, rfl, rfl, (sz_conj zx).mono (by decide), k1, k2, k3, k4, k5⟩
            · exact ⟨_, _, _, _, rfl, Sw.start v9 v10 v11 v12 HF.out HD.out H9.out, fun h => absurd h (by decide), fun h => absurd h (by decide), fun h => absurd h (by decide), fun h => absurd h (by decide), fun h => absurd h (by decide), fun h => absurd h (by decide), by simp⟩
        · as_aux_lemma =>
            go_upto_region 26 with fail
            clear t9
            refine wp_region_any (by kernel_rfl) ?_
            refine wpAny_inv (fun l a' w' => ∃ q0 q1 q2 q3 : Value, a' = ⟨List.toArray (.slice A n c :: .slice (some ⟨b, fo, none⟩) m d :: undef :: undef :: u4 :: .slice (some ⟨gl', 0, none⟩) n' cl :: .slice (some ⟨gm', 0, none⟩) n' cm :: undef :: .pointer (some ⟨g8, 0, none⟩) :: .pointer (some ⟨g9, 0, none⟩) :: .pointer (some ⟨g10, 0, none⟩) :: .pointer (some ⟨g11, 0, none⟩) :: .pointer (some ⟨g12, 0, none⟩) :: .int .i64 0 :: .int .i64 0 :: .slice A n c :: .int .i64 ↑n :: .bool false :: .bool false :: .slice A n c :: .int .i64 ↑n :: .bool false :: .bool false :: .bool false :: .slice (some ⟨b, fo, none⟩) m d :: .int .i64 ↑m :: .bool false :: .bool false :: undef :: .slice A n c :: .slice (some ⟨gl, 0, none⟩) n n :: .slice A n c :: .slice (some ⟨gm, 0, none⟩) n n :: .slice (some ⟨b, fo, none⟩) m d :: .int .i64 ↑m :: .int .i64 ↑k :: u36 :: u37 :: u38 :: u39 :: u40 :: u41 :: u42 :: u43 :: u44 :: u45 :: u46 :: u47 :: u48 :: u49 :: u50 :: u51 :: u52 :: u53 :: u54 :: u55 :: u56 :: u57 :: u58 :: u59 :: u60 :: u61 :: u62 :: u63 :: u64 :: u65 :: u66 :: u67 :: u68 :: u69 :: u70 :: u71 :: u72 :: u73 :: u74 :: .pointer (some ⟨g8, 0, none⟩) :: .int .u8 kk :: .int .u8 (kk % 9) :: u78 :: u79 :: u80 :: u81 :: .bool false :: .bool false :: u84 :: u85 :: u86 :: u87 :: u88 :: u89 :: .bool false :: .bool false :: u92 :: u93 :: u94 :: u95 :: u96 :: u97 :: .bool false :: .bool false :: u100 :: u101 :: u102 :: u103 :: u104 :: u105 :: .bool false :: .bool false :: u108 :: u109 :: u110 :: u111 :: u112 :: u113 :: u114 :: u115 :: u116 :: u117 :: u118 :: u119 :: .bool false :: .bool false :: u122 :: u123 :: u124 :: u125 :: .bool false :: .bool false :: u128 :: u129 :: u130 :: u131 :: .bool true :: .bool true :: q0 :: q1 :: q2 :: q3 :: u138 :: u139 :: u140 :: u141 :: u142 :: u143 :: u144 :: u145 :: u146 :: u147 :: u148 :: u149 :: u150 :: u151 :: u152 :: u153 :: u154 :: u155 :: u156 :: u157 :: u158 :: u159 :: u160 :: u161 :: u162 :: u163 :: u164 :: u165 :: u166 :: u167 :: u168 :: u169 :: u170 :: u171 :: u172 :: u173 :: u174 :: u175 :: u176 :: u177 :: u178 :: u179 :: u180 :: u181 :: u182 :: u183 :: u184 :: u185 :: u186 :: u187 :: u188 :: u189 :: u190 :: u191 :: u192 :: u193 :: u194 :: u195 :: u196 :: u197 :: u198 :: u199 :: u200 :: u201 :: u202 :: u203 :: u204 :: u205 :: u206 :: u207 :: u208 :: u209 :: u210 :: u211 :: u212 :: undef :: []), []⟩ ∧ Sw l 4 5 W g9 g10 g11 g12 x y (x.norm) w' ∧ On l 0 (SlotNum w' q0 (x)) ∧ On l 1 (SlotNum w' q1 (x.norm)) ∧ On l 2 (SlotNumC w' q2 (x)) ∧ On l 3 (SlotNumC w' q3 (x.norm)) ∧ On l 4 (on l 0 = true) ∧ On l 5 (on l 2 = true) ∧ l.size = 6) ?_ ?_ _ _ _ _ (by decide) ?_
            · intro l a' W' i hi hI
              obtain ⟨q0, q1, q2, q3, rfl, hS, h0, h1, h2, h3, hx, hy, hz⟩ := hI
              obtain ⟨hlt, hoff, hpre⟩ := ready_pre hi
              have hc : i = 0 ∨ i = 1 ∨ i = 2 ∨ i = 3 ∨ i = 4 ∨ i = 5 := by have : i < 6 := hlt; omega
              clear hi
              rcases hc with rfl | rfl | rfl | rfl | rfl | rfl <;> (have hp := hpre _ rfl; simp [Region.binds] at hp; clear hpre)
              · obtain ⟨A1, A2, A3, ⟨c0, c1, c2, c3, c4⟩, n1⟩ := (hS.1.1.get (fun h => off hoff (hx.get h))).slot
                refine wpOp_go rfl rfl (fun K hK => ?_)
                go_simp
                refine hK _ _ ?_
                exact ⟨_, _, _, _, rfl, hS.ld (by decide) (by decide), On.new ⟨A1, A2, A3, rfl, n1⟩, h1.keep (by decide), h2.keep (by decide), h3.keep (by decide), hx.mono (by decide), hy.mono (by decide), by simp [hz]⟩
              · obtain ⟨X1, X2, X3, e1, n1⟩ := h0.get (by simp [hp])
                subst e1
                refine wpOp_go rfl rfl (fun K hK => ?_)
                go_wp2_with (first | (go_at_call 38; refine (norm_num x X1 X2 X3 _ n1 (zx.mono (by decide))).mono ?_; rintro e w1 ⟨A1, A2, A3, rfl, hN, hb⟩))
                try refine hK _ _ ?_
                exact ⟨_, _, _, _, rfl, hS.ca hb (by decide) (by decide), h0.caP hb (by decide), On.new ⟨A1, A2, A3, rfl, hN⟩, h2.caR hb (by decide), h3.caR hb (by decide), hx.mono (by decide), hy.mono (by decide), by simp [hz]⟩
              · obtain ⟨A1, A2, A3, k1, k2, k3, ⟨c0, c1, c2, c3, c4⟩, n1⟩ := (hS.2.2.1.1.get (fun h => off hoff (hy.get h))).slot
                refine wpOp_go rfl rfl (fun K hK => ?_)
                go_simp
                refine hK _ _ ?_
                exact ⟨_, _, _, _, rfl, hS.ld (by decide) (by decide), h0.keep (by decide), h1.keep (by decide), On.new ⟨A1, A2, A3, k1, k2, k3, rfl, n1⟩, h3.keep (by decide), hx.mono (by decide), hy.mono (by decide), by simp [hz]⟩
              · obtain ⟨X1, X2, X3, x1, x2, x3, e1, n1⟩ := h2.get (by simp [hp])
                subst e1
                refine wpOp_go rfl rfl (fun K hK => ?_)
                go_wp2_with (first | (go_at_call 39; refine (rnorm_num x X1 X2 X3 x1 x2 x3 _ n1 (zx.mono (by decide))).mono ?_; rintro e w1 ⟨A1, A2, A3, k1, k2, k3, rfl, hN, hb⟩))
                try refine hK _ _ ?_
                exact ⟨_, _, _, _, rfl, hS.ca hb (by decide) (by decide), h0.caP hb (by decide), h1.caP hb (by decide), h2.caR hb (by decide), On.new ⟨A1, A2, A3, k1, k2, k3, rfl, hN⟩, hx.mono (by decide), hy.mono (by decide), by simp [hz]⟩
              · obtain ⟨c, v1, v2, v3, v4, ⟨c0, c1, c2, c3, c4⟩, ⟨f0, f1, f2, f3, f4⟩⟩ := hS.boolP (off hoff)
                obtain ⟨A1, A2, A3, e1, n1⟩ := h1.get (by simp [hp])
                subst e1
                refine wpOp_go rfl rfl (fun K hK => ?_)
                go_simp
                refine hK _ _ ?_
                obtain ⟨X, hX⟩ : ∃ X : World, X = set5 W' g9 (x.norm) A1 A2 A3 := ⟨_, rfl⟩
                have hw : set5 W' g9 (x.norm) A1 A2 A3 = X := hX.symm
                unfold set5 at hw
                rw [hw]
                subst hX
                exact ⟨_, _, _, _, rfl, hS.stP (off hoff) (by omega) (by decide) n1, h0.sP c0 (by decide), h1.sP c0 (by decide), h2.sR c0 (by decide), h3.sR c0 (by decide), On.new (on_mono (by simp [hp])), hy.mono (by decide), by simp [hz]⟩
              · obtain ⟨c, v1, v2, v3, v4, ⟨c0, c1, c2, c3, c4⟩, ⟨f0, f1, f2, f3, f4⟩⟩ := hS.boolR (off hoff)
                obtain ⟨A1, A2, A3, k1, k2, k3, e1, n1⟩ := h3.get (by simp [hp])
                subst e1
                refine wpOp_go rfl rfl (fun K hK => ?_)
                go_simp
                refine hK _ _ ?_
                obtain ⟨X, hX⟩ : ∃ X : World, X = set5c W' g11 (x.norm) A1 A2 A3 k1 k2 k3 := ⟨_, rfl⟩
                have hw : set5c W' g11 (x.norm) A1 A2 A3 k1 k2 k3 = X := hX.symm
                unfold set5c at hw
                rw [hw]
                subst hX
                exact ⟨_, _, _, _, rfl, hS.stR (off hoff) (by omega) (by decide) n1, h0.cP c0 (by decide), h1.cP c0 (by decide), h2.cR c0 (by decide), h3.cR c0 (by decide), hx.mono (by decide), On.new (on_mono (by simp [hp])), by simp [hz]⟩
            · intro l a' W' hr hI
              obtain ⟨q0, q1, q2, q3, rfl, hS, h0, h1, h2, h3, hx, hy, hz⟩ := hI
              have a0 := not_ready (i := 0) hr hz rfl (by simp [Region.binds])
              have a1 := not_ready (i := 1) hr hz rfl (by simp [Region.binds, a0])
              have a2 := not_ready (i := 2) hr hz rfl (by simp [Region.binds, a0, a1])
              have a3 := not_ready (i := 3) hr hz rfl (by simp [Region.binds, a0, a1, a2])
              have a4 := not_ready (i := 4) hr hz rfl (by simp [Region.binds, a0, a1, a2, a3])
              have a5 := not_ready (i := 5) hr hz rfl (by simp [Region.binds, a0, a1, a2, a3, a4])
              obtain ⟨⟨_, k1⟩, k2, ⟨_, k3⟩, k4, k5, _⟩ := hS
              have k1 := k1.get a4; have k3 := k3.get a5
              clear hr hz a0 a1 a2 a3 a4 a5 h0 h1 h2 h3 hx hy
              go_wp2_with fail
              go_meet
              exact ⟨x.norm, 0, rfl, rfl, (sz_norm zx).mono (by decide), k1, k2, k3, k4, k5⟩
            · exact ⟨_, _, _, _, rfl, Sw.start v9 v10 v11 v12 HF.out HD.out H9.out, fun h => absurd h (by decide), fun h => absurd h (by decide), fun h => absurd h (by decide), fun h => absurd h (by decide), fun h => absurd h (by decide), fun h => absurd h (by decide), by simp⟩
        · as_aux_lemma =>
            go_upto_region 28 with fail
            clear t9
            refine wp_region_any (by kernel_rfl) ?_
            refine wpAny_inv (fun l a' w' => ∃ q0 q1 q2 q3 q4 q5 q6 q7 q8 q9 : Value, a' = ⟨List.toArray (.slice A n c :: .slice (some ⟨b, fo, none⟩) m d :: undef :: undef :: u4 :: .slice (some ⟨gl', 0, none⟩) n' cl :: .slice (some ⟨gm', 0, none⟩) n' cm :: undef :: .pointer (some ⟨g8, 0, none⟩) :: .pointer (some ⟨g9, 0, none⟩) :: .pointer (some ⟨g10, 0, none⟩) :: .pointer (some ⟨g11, 0, none⟩) :: .pointer (some ⟨g12, 0, none⟩) :: .int .i64 0 :: .int .i64 0 :: .slice A n c :: .int .i64 ↑n :: .bool false :: .bool false :: .slice A n c :: .int .i64 ↑n :: .bool false :: .bool false :: .bool false :: .slice (some ⟨b, fo, none⟩) m d :: .int .i64 ↑m :: .bool false :: .bool false :: undef :: .slice A n c :: .slice (some ⟨gl, 0, none⟩) n n :: .slice A n c :: .slice (some ⟨gm, 0, none⟩) n n :: .slice (some ⟨b, fo, none⟩) m d :: .int .i64 ↑m :: .int .i64 ↑k :: u36 :: u37 :: u38 :: u39 :: u40 :: u41 :: u42 :: u43 :: u44 :: u45 :: u46 :: u47 :: u48 :: u49 :: u50 :: u51 :: u52 :: u53 :: u54 :: u55 :: u56 :: u57 :: u58 :: u59 :: u60 :: u61 :: u62 :: u63 :: u64 :: u65 :: u66 :: u67 :: u68 :: u69 :: u70 :: u71 :: u72 :: u73 :: u74 :: .pointer (some ⟨g8, 0, none⟩) :: .int .u8 kk :: .int .u8 (kk % 9) :: u78 :: u79 :: u80 :: u81 :: .bool false :: .bool false :: u84 :: u85 :: u86 :: u87 :: u88 :: u89 :: .bool false :: .bool false :: u92 :: u93 :: u94 :: u95 :: u96 :: u97 :: .bool false :: .bool false :: u100 :: u101 :: u102 :: u103 :: u104 :: u105 :: .bool false :: .bool false :: u108 :: u109 :: u110 :: u111 :: u112 :: u113 :: u114 :: u115 :: u116 :: u117 :: u118 :: u119 :: .bool false :: .bool false :: u122 :: u123 :: u124 :: u125 :: .bool false :: .bool false :: u128 :: u129 :: u130 :: u131 :: .bool false :: .bool false :: u134 :: u135 :: u136 :: u137 :: .bool true :: .bool true :: q0 :: q1 :: q2 :: q3 :: q4 :: q5 :: q6 :: q7 :: q8 :: q9 :: u150 :: u151 :: u152 :: u153 :: u154 :: u155 :: u156 :: u157 :: u158 :: u159 :: u160 :: u161 :: u162 :: u163 :: u164 :: u165 :: u166 :: u167 :: u168 :: u169 :: u170 :: u171 :: u172 :: u173 :: u174 :: u175 :: u176 :: u177 :: u178 :: u179 :: u180 :: u181 :: u182 :: u183 :: u184 :: u185 :: u186 :: u187 :: u188 :: u189 :: u190 :: u191 :: u192 :: u193 :: u194 :: u195 :: u196 :: u197 :: u198 :: u199 :: u200 :: u201 :: u202 :: u203 :: u204 :: u205 :: u206 :: u207 :: u208 :: u209 :: u210 :: u211 :: u212 :: undef :: []), []⟩ ∧ Sw l 10 11 W g9 g10 g11 g12 x y (x.reOf.add y.imOf) w' ∧ On l 0 (SlotNum w' q0 (x)) ∧ On l 1 (SlotNum w' q1 (x.reOf)) ∧ On l 2 (SlotNum w' q2 (y)) ∧ On l 3 (SlotNum w' q3 (y.imOf)) ∧ On l 4 (SlotNum w' q4 (x.reOf.add y.imOf)) ∧ On l 5 (SlotNumC w' q5 (x)) ∧ On l 6 (SlotNumC w' q6 (x.reOf)) ∧ On l 7 (SlotNumC w' q7 (y)) ∧ On l 8 (SlotNumC w' q8 (y.imOf)) ∧ On l 9 (SlotNumC w' q9 (x.reOf.add y.imOf)) ∧ On l 10 (on l 0 = true) ∧ On l 11 (on l 5 = true) ∧ l.size = 12) ?_ ?_ _ _ _ _ (by decide) ?_
            · intro l a' W' i hi hI
              obtain ⟨q0, q1, q2, q3, q4, q5, q6, q7, q8, q9, rfl, hS, h0, h1, h2, h3, h4, h5, h6, h7, h8, h9, hx, hy, hz⟩ := hI
              obtain ⟨hlt, hoff, hpre⟩ := ready_pre hi
              have hc : i = 0 ∨ i = 1 ∨ i = 2 ∨ i = 3 ∨ i = 4 ∨ i = 5 ∨ i = 6 ∨ i = 7 ∨ i = 8 ∨ i = 9 ∨ i = 10 ∨ i = 11 := by have : i < 12 := hlt; omega
              clear hi
              rcases hc with rfl | rfl | rfl | rfl | rfl | rfl | rfl | rfl | rfl | rfl | rfl | rfl <;> (have hp := hpre _ rfl; simp [Region.binds] at hp; clear hpre)
              · obtain ⟨A1, A2, A3, ⟨c0, c1, c2, c3, c4⟩, n1⟩ := (hS.1.1.get (fun h => off hoff (hx.get h))).slot
                refine wpOp_go rfl rfl (fun K hK => ?_)
                go_simp
                refine hK _ _ ?_
                exact ⟨_, _, _, _, _, _, _, _, _, _, rfl, hS.ld (by decide) (by decide), On.new ⟨A1, A2, A3, rfl, n1⟩, h1.keep (by decide), h2.keep (by decide), h3.keep (by decide), h4.keep (by decide), h5.keep (by decide), h6.keep (by decide), h7.keep (by decide), h8.keep (by decide), h9.keep (by decide), hx.mono (by decide), hy.mono (by decide), by simp [hz]⟩
              · obtain ⟨X1, X2, X3, e1, n1⟩ := h0.get (by simp [hp])
                subst e1
                refine wpOp_go rfl rfl (fun K hK => ?_)
                go_wp2_with (first | (go_at_call 40; refine (re_num x X1 X2 X3 _ n1 (zx.mono (by decide))).mono ?_; rintro e w1 ⟨A1, A2, A3, rfl, hN, hb⟩))
                try refine hK _ _ ?_
                exact ⟨_, _, _, _, _, _, _, _, _, _, rfl, hS.ca hb (by decide) (by decide), h0.caP hb (by decide), On.new ⟨A1, A2, A3, rfl, hN⟩, h2.caP hb (by decide), h3.caP hb (by decide), h4.caP hb (by decide), h5.caR hb (by decide), h6.caR hb (by decide), h7.caR hb (by decide), h8.caR hb (by decide), h9.caR hb (by decide), hx.mono (by decide), hy.mono (by decide), by simp [hz]⟩
              · obtain ⟨A1, A2, A3, ⟨c0, c1, c2, c3, c4⟩, n1⟩ := hS.2.1.slot
                refine wpOp_go rfl rfl (fun K hK => ?_)
                go_simp
                refine hK _ _ ?_
                exact ⟨_, _, _, _, _, _, _, _, _, _, rfl, hS.ld (by decide) (by decide), h0.keep (by decide), h1.keep (by decide), On.new ⟨A1, A2, A3, rfl, n1⟩, h3.keep (by decide), h4.keep (by decide), h5.keep (by decide), h6.keep (by decide), h7.keep (by decide), h8.keep (by decide), h9.keep (by decide), hx.mono (by decide), hy.mono (by decide), by simp [hz]⟩
              · obtain ⟨X1, X2, X3, e1, n1⟩ := h2.get (by simp [hp])
                subst e1
                refine wpOp_go rfl rfl (fun K hK => ?_)
                go_wp2_with (first | (go_at_call 41; refine (im_num y X1 X2 X3 _ n1 (zy.mono (by decide))).mono ?_; rintro e w1 ⟨A1, A2, A3, rfl, hN, hb⟩))
                try refine hK _ _ ?_
                exact ⟨_, _, _, _, _, _, _, _, _, _, rfl, hS.ca hb (by decide) (by decide), h0.caP hb (by decide), h1.caP hb (by decide), h2.caP hb (by decide), On.new ⟨A1, A2, A3, rfl, hN⟩, h4.caP hb (by decide), h5.caR hb (by decide), h6.caR hb (by decide), h7.caR hb (by decide), h8.caR hb (by decide), h9.caR hb (by decide), hx.mono (by decide), hy.mono (by decide), by simp [hz]⟩
              · obtain ⟨X1, X2, X3, e1, n1⟩ := h1.get (by simp [hp])
                obtain ⟨Y1, Y2, Y3, e2, n2⟩ := h3.get (by simp [hp])
                subst e1 e2
                refine wpOp_go rfl rfl (fun K hK => ?_)
                go_wp2_with (first | (go_at_call 26; refine (add_num x.reOf y.imOf X1 X2 X3 Y1 Y2 Y3 _ n1 n2 ((sz_re zx).mono (by decide)) ((sz_im zy).mono (by decide))).mono ?_; rintro e w1 ⟨A1, A2, A3, rfl, hN, hb⟩))
                try refine hK _ _ ?_
                exact ⟨_, _, _, _, _, _, _, _, _, _, rfl, hS.ca hb (by decide) (by decide), h0.caP hb (by decide), h1.caP hb (by decide), h2.caP hb (by decide), h3.caP hb (by decide), On.new ⟨A1, A2, A3, rfl, hN⟩, h5.caR hb (by decide), h6.caR hb (by decide), h7.caR hb (by decide), h8.caR hb (by decide), h9.caR hb (by decide), hx.mono (by decide), hy.mono (by decide), by simp [hz]⟩
              · obtain ⟨A1, A2, A3, k1, k2, k3, ⟨c0, c1, c2, c3, c4⟩, n1⟩ := (hS.2.2.1.1.get (fun h => off hoff (hy.get h))).slot
                refine wpOp_go rfl rfl (fun K hK => ?_)
                go_simp
                refine hK _ _ ?_
                exact ⟨_, _, _, _, _, _, _, _, _, _, rfl, hS.ld (by decide) (by decide), h0.keep (by decide), h1.keep (by decide), h2.keep (by decide), h3.keep (by decide), h4.keep (by decide), On.new ⟨A1, A2, A3, k1, k2, k3, rfl, n1⟩, h6.keep (by decide), h7.keep (by decide), h8.keep (by decide), h9.keep (by decide), hx.mono (by decide), hy.mono (by decide), by simp [hz]⟩
              · obtain ⟨X1, X2, X3, x1, x2, x3, e1, n1⟩ := h5.get (by simp [hp])
                subst e1
                refine wpOp_go rfl rfl (fun K hK => ?_)
                go_wp2_with (first | (go_at_call 42; refine (rre_num x X1 X2 X3 x1 x2 x3 _ n1 (zx.mono (by decide))).mono ?_; rintro e w1 ⟨A1, A2, A3, k1, k2, k3, rfl, hN, hb⟩))
                try refine hK _ _ ?_
                exact ⟨_, _, _, _, _, _, _, _, _, _, rfl, hS.ca hb (by decide) (by decide), h0.caP hb (by decide), h1.caP hb (by decide), h2.caP hb (by decide), h3.caP hb (by decide), h4.caP hb (by decide), h5.caR hb (by decide), On.new ⟨A1, A2, A3, k1, k2, k3, rfl, hN⟩, h7.caR hb (by decide), h8.caR hb (by decide), h9.caR hb (by decide), hx.mono (by decide), hy.mono (by decide), by simp [hz]⟩
              · obtain ⟨A1, A2, A3, k1, k2, k3, ⟨c0, c1, c2, c3, c4⟩, n1⟩ := hS.2.2.2.1.slot
                refine wpOp_go rfl rfl (fun K hK => ?_)
                go_simp
                refine hK _ _ ?_
                exact ⟨_, _, _, _, _, _, _, _, _, _, rfl, hS.ld (by decide) (by decide), h0.keep (by decide), h1.keep (by decide), h2.keep (by decide), h3.keep (by decide), h4.keep (by decide), h5.keep (by decide), h6.keep (by decide), On.new ⟨A1, A2, A3, k1, k2, k3, rfl, n1⟩, h8.keep (by decide), h9.keep (by decide), hx.mono (by decide), hy.mono (by decide), by simp [hz]⟩
              · obtain ⟨X1, X2, X3, x1, x2, x3, e1, n1⟩ := h7.get (by simp [hp])
                subst e1
                refine wpOp_go rfl rfl (fun K hK => ?_)
                go_wp2_with (first | (go_at_call 43; refine (rim_num y X1 X2 X3 x1 x2 x3 _ n1 (zy.mono (by decide))).mono ?_; rintro e w1 ⟨A1, A2, A3, k1, k2, k3, rfl, hN, hb⟩))
                try refine hK _ _ ?_
                exact ⟨_, _, _, _, _, _, _, _, _, _, rfl, hS.ca hb (by decide) (by decide), h0.caP hb (by decide), h1.caP hb (by decide), h2.caP hb (by decide), h3.caP hb (by decide), h4.caP hb (by decide), h5.caR hb (by decide), h6.caR hb (by decide), h7.caR hb (by decide), On.new ⟨A1, A2, A3, k1, k2, k3, rfl, hN⟩, h9.caR hb (by decide), hx.mono (by decide), hy.mono (by decide), by simp [hz]⟩
              · obtain ⟨X1, X2, X3, x1, x2, x3, e1, n1⟩ := h6.get (by simp [hp])
                obtain ⟨Y1, Y2, Y3, y1, y2, y3, e2, n2⟩ := h8.get (by simp [hp])
                subst e1 e2
                refine wpOp_go rfl rfl (fun K hK => ?_)
                go_wp2_with (first | (go_at_call 27; refine (radd_any x.reOf y.imOf X1 X2 X3 Y1 Y2 Y3 x1 x2 x3 y1 y2 y3 _ n1 n2 ((sz_re zx).mono (by decide)) ((sz_im zy).mono (by decide))).mono ?_; rintro e w1 ⟨A1, A2, A3, k1, k2, k3, rfl, hN, hb⟩))
                try refine hK _ _ ?_
                exact ⟨_, _, _, _, _, _, _, _, _, _, rfl, hS.ca hb (by decide) (by decide), h0.caP hb (by decide), h1.caP hb (by decide), h2.caP hb (by decide), h3.caP hb (by decide), h4.caP hb (by decide), h5.caR hb (by decide), h6.caR hb (by decide), h7.caR hb (by decide), h8.caR hb (by decide), On.new ⟨A1, A2, A3, k1, k2, k3, rfl, hN⟩, hx.mono (by decide), hy.mono (by decide), by simp [hz]⟩
              · obtain ⟨c, v1, v2, v3, v4, ⟨c0, c1, c2, c3, c4⟩, ⟨f0, f1, f2, f3, f4⟩⟩ := hS.boolP (off hoff)
                obtain ⟨A1, A2, A3, e1, n1⟩ := h4.get (by simp [hp])
                subst e1
                refine wpOp_go rfl rfl (fun K hK => ?_)
                go_simp
                refine hK _ _ ?_
                obtain ⟨X, hX⟩ : ∃ X : World, X = set5 W' g9 (x.reOf.add y.imOf) A1 A2 A3 := ⟨_, rfl⟩
                have hw : set5 W' g9 (x.reOf.add y.imOf) A1 A2 A3 = X := hX.symm
                unfold set5 at hw
                rw [hw]
                subst hX
                exact ⟨_, _, _, _, _, _, _, _, _, _, rfl, hS.stP (off hoff) (by omega) (by decide) n1, h0.sP c0 (by decide), h1.sP c0 (by decide), h2.sP c0 (by decide), h3.sP c0 (by decide), h4.sP c0 (by decide), h5.sR c0 (by decide), h6.sR c0 (by decide), h7.sR c0 (by decide), h8.sR c0 (by decide), h9.sR c0 (by decide), On.new (on_mono (by simp [hp])), hy.mono (by decide), by simp [hz]⟩
              · obtain ⟨c, v1, v2, v3, v4, ⟨c0, c1, c2, c3, c4⟩, ⟨f0, f1, f2, f3, f4⟩⟩ := hS.boolR (off hoff)
                obtain ⟨A1, A2, A3, k1, k2, k3, e1, n1⟩ := h9.get (by simp [hp])
                subst e1
                refine wpOp_go rfl rfl (fun K hK => ?_)
                go_simp
                refine hK _ _ ?_
                obtain ⟨X, hX⟩ : ∃ X : World, X = set5c W' g11 (x.reOf.add y.imOf) A1 A2 A3 k1 k2 k3 := ⟨_, rfl⟩
                have hw : set5c W' g11 (x.reOf.add y.imOf) A1 A2 A3 k1 k2 k3 = X := hX.symm
                unfold set5c at hw
                rw [hw]
                subst hX
                exact ⟨_, _, _, _, _, _, _, _, _, _, rfl, hS.stR (off hoff) (by omega) (by decide) n1, h0.cP c0 (by decide), h1.cP c0 (by decide), h2.cP c0 (by decide), h3.cP c0 (by decide), h4.cP c0 (by decide), h5.cR c0 (by decide), h6.cR c0 (by decide), h7.cR c0 (by decide), h8.cR c0 (by decide), h9.cR c0 (by decide), hx.mono (by decide), On.new (on_mono (by simp [hp])), by simp [hz]⟩
            · intro l a' W' hr hI
              obtain ⟨q0, q1, q2, q3, q4, q5, q6, q7, q8, q9, rfl, hS, h0, h1, h2, h3, h4, h5, h6, h7, h8, h9, hx, hy, hz⟩ := hI
              have a0 := not_ready (i := 0) hr hz rfl (by simp [Region.binds])
              have a1 := not_ready (i := 1) hr hz rfl (by simp [Region.binds, a0])
              have a2 := not_ready (i := 2) hr hz rfl (by simp [Region.binds, a0, a1])
              have a3 := not_ready (i := 3) hr hz rfl (by simp [Region.binds, a0, a1, a2])
              have a4 := not_ready (i := 4) hr hz rfl (by simp [Region.binds, a0, a1, a2, a3])
              have a5 := not_ready (i := 5) hr hz rfl (by simp [Region.binds, a0, a1, a2, a3, a4])
              have a6 := not_ready (i := 6) hr hz rfl (by simp [Region.binds, a0, a1, a2, a3, a4, a5])
              have a7 := not_ready (i := 7) hr hz rfl (by simp [Region.binds, a0, a1, a2, a3, a4, a5, a6])
              have a8 := not_ready (i := 8) hr hz rfl (by simp [Region.binds, a0, a1, a2, a3, a4, a5, a6, a7])
              have a9 := not_ready (i := 9) hr hz rfl (by simp [Region.binds, a0, a1, a2, a3, a4, a5, a6, a7, a8])
              have a10 := not_ready (i := 10) hr hz rfl (by simp [Region.binds, a0, a1, a2, a3, a4, a5, a6, a7, a8, a9])
              have a11 := not_ready (i := 11) hr hz rfl (by simp [Region.binds, a0, a1, a2, a3, a4, a5, a6, a7, a8, a9, a10])
              obtain ⟨⟨_, k1⟩, k2, ⟨_, k3⟩, k4, k5, _⟩ := hS
              have k1 := k1.get a10; have k3 := k3.get a11
              clear hr hz a0 a1 a2 a3 a4 a5 a6 a7 a8 a9 a10 a11 h0 h1 h2 h3 h4 h5 h6 h7 h8 h9 hx hy
              go_wp2_with fail
              go_meet
              exact ⟨x.reOf.add y.imOf, 0, rfl, rfl, (sz_add (sz_re zx) (sz_im zy)).mono (by decide), k1, k2, k3, k4, k5⟩
            · exact ⟨_, _, _, _, _, _, _, _, _, _, rfl, Sw.start v9 v10 v11 v12 HF.out HD.out H9.out, fun h => absurd h (by decide), fun h => absurd h (by decide), fun h => absurd h (by decide), fun h => absurd h (by decide), fun h => absurd h (by decide), fun h => absurd h (by decide), fun h => absurd h (by decide), fun h => absurd h (by decide), fun h => absurd h (by decide), fun h => absurd h (by decide), fun h => absurd h (by decide), fun h => absurd h (by decide), by simp⟩
        · as_aux_lemma =>
            go_upto_region 11 with fail
            clear t9
            refine wp_region_any (by kernel_rfl) ?_
            refine wpAny_inv (fun l a' w' => ∃ q0 q1 q2 q3 : Value, a' = ⟨List.toArray (.slice A n c :: .slice (some ⟨b, fo, none⟩) m d :: undef :: undef :: u4 :: .slice (some ⟨gl', 0, none⟩) n' cl :: .slice (some ⟨gm', 0, none⟩) n' cm :: undef :: .pointer (some ⟨g8, 0, none⟩) :: .pointer (some ⟨g9, 0, none⟩) :: .pointer (some ⟨g10, 0, none⟩) :: .pointer (some ⟨g11, 0, none⟩) :: .pointer (some ⟨g12, 0, none⟩) :: .int .i64 0 :: .int .i64 0 :: .slice A n c :: .int .i64 ↑n :: .bool false :: .bool false :: .slice A n c :: .int .i64 ↑n :: .bool false :: .bool false :: .bool false :: .slice (some ⟨b, fo, none⟩) m d :: .int .i64 ↑m :: .bool false :: .bool false :: undef :: .slice A n c :: .slice (some ⟨gl, 0, none⟩) n n :: .slice A n c :: .slice (some ⟨gm, 0, none⟩) n n :: .slice (some ⟨b, fo, none⟩) m d :: .int .i64 ↑m :: .int .i64 ↑k :: u36 :: u37 :: u38 :: u39 :: u40 :: u41 :: u42 :: u43 :: u44 :: u45 :: u46 :: u47 :: u48 :: u49 :: u50 :: u51 :: u52 :: u53 :: u54 :: u55 :: u56 :: u57 :: u58 :: u59 :: u60 :: u61 :: u62 :: u63 :: u64 :: u65 :: u66 :: u67 :: u68 :: u69 :: u70 :: u71 :: u72 :: u73 :: u74 :: .pointer (some ⟨g8, 0, none⟩) :: .int .u8 kk :: .int .u8 (kk % 9) :: q0 :: q1 :: q2 :: q3 :: .bool false :: .bool false :: u84 :: u85 :: u86 :: u87 :: u88 :: u89 :: .bool false :: .bool false :: u92 :: u93 :: u94 :: u95 :: u96 :: u97 :: .bool false :: .bool false :: u100 :: u101 :: u102 :: u103 :: u104 :: u105 :: .bool false :: .bool false :: u108 :: u109 :: u110 :: u111 :: u112 :: u113 :: u114 :: u115 :: u116 :: u117 :: u118 :: u119 :: .bool false :: .bool false :: u122 :: u123 :: u124 :: u125 :: .bool false :: .bool false :: u128 :: u129 :: u130 :: u131 :: .bool false :: .bool false :: u134 :: u135 :: u136 :: u137 :: .bool false :: .bool false :: u140 :: u141 :: u142 :: u143 :: u144 :: u145 :: u146 :: u147 :: u148 :: u149 :: u150 :: u151 :: u152 :: u153 :: u154 :: u155 :: u156 :: u157 :: u158 :: u159 :: u160 :: u161 :: u162 :: u163 :: u164 :: u165 :: u166 :: u167 :: u168 :: u169 :: u170 :: u171 :: u172 :: u173 :: u174 :: u175 :: u176 :: u177 :: u178 :: u179 :: u180 :: u181 :: u182 :: u183 :: u184 :: u185 :: u186 :: u187 :: u188 :: u189 :: u190 :: u191 :: u192 :: u193 :: u194 :: u195 :: u196 :: u197 :: u198 :: u199 :: u200 :: u201 :: u202 :: u203 :: u204 :: u205 :: u206 :: u207 :: u208 :: u209 :: u210 :: u211 :: u212 :: undef :: []), []⟩ ∧ Sw l 4 5 W g9 g10 g11 g12 x y (y) w' ∧ On l 0 (SlotNum w' q0 (x)) ∧ On l 1 (SlotNum w' q1 (y)) ∧ On l 2 (SlotNum w' q2 (y)) ∧ On l 3 (SlotNumC w' q3 (y)) ∧ On l 4 (on l 0 = true) ∧ l.size = 6) ?_ ?_ _ _ _ _ (by decide) ?_
            · intro l a' W' i hi hI
              obtain ⟨q0, q1, q2, q3, rfl, hS, h0, h1, h2, h3, hx, hz⟩ := hI
              obtain ⟨hlt, hoff, hpre⟩ := ready_pre hi
              have hc : i = 0 ∨ i = 1 ∨ i = 2 ∨ i = 3 ∨ i = 4 ∨ i = 5 := by have : i < 6 := hlt; omega
              clear hi
              rcases hc with rfl | rfl | rfl | rfl | rfl | rfl <;> (have hp := hpre _ rfl; simp [Region.binds] at hp; clear hpre)
              · obtain ⟨A1, A2, A3, ⟨c0, c1, c2, c3, c4⟩, n1⟩ := (hS.1.1.get (fun h => off hoff (hx.get h))).slot
                refine wpOp_go rfl rfl (fun K hK => ?_)
                go_simp
                refine hK _ _ ?_
                exact ⟨_, _, _, _, rfl, hS.ld (by decide) (by decide), On.new ⟨A1, A2, A3, rfl, n1⟩, h1.keep (by decide), h2.keep (by decide), h3.keep (by decide), hx.mono (by decide), by simp [hz]⟩
              · obtain ⟨A1, A2, A3, ⟨c0, c1, c2, c3, c4⟩, n1⟩ := hS.2.1.slot
                refine wpOp_go rfl rfl (fun K hK => ?_)
                go_simp
                refine hK _ _ ?_
                exact ⟨_, _, _, _, rfl, hS.ld (by decide) (by decide), h0.keep (by decide), On.new ⟨A1, A2, A3, rfl, n1⟩, h2.keep (by decide), h3.keep (by decide), hx.mono (by decide), by simp [hz]⟩
              · obtain ⟨X1, X2, X3, e1, n1⟩ := h0.get (by simp [hp])
                obtain ⟨Y1, Y2, Y3, e2, n2⟩ := h1.get (by simp [hp])
                subst e1 e2
                refine wpOp_go rfl rfl (fun K hK => ?_)
                go_wp2_with (first | (go_at_call 44; refine (of_num x y X1 X2 X3 Y1 Y2 Y3 _ n1 n2).mono ?_; rintro e w1 ⟨A1, A2, A3, rfl, hN, hb⟩))
                try refine hK _ _ ?_
                exact ⟨_, _, _, _, rfl, hS.ca hb (by decide) (by decide), h0.caP hb (by decide), h1.caP hb (by decide), On.new ⟨A1, A2, A3, rfl, hN⟩, h3.caR hb (by decide), hx.mono (by decide), by simp [hz]⟩
              · obtain ⟨A1, A2, A3, k1, k2, k3, ⟨c0, c1, c2, c3, c4⟩, n1⟩ := hS.2.2.2.1.slot
                refine wpOp_go rfl rfl (fun K hK => ?_)
                go_simp
                refine hK _ _ ?_
                exact ⟨_, _, _, _, rfl, hS.ld (by decide) (by decide), h0.keep (by decide), h1.keep (by decide), h2.keep (by decide), On.new ⟨A1, A2, A3, k1, k2, k3, rfl, n1⟩, hx.mono (by decide), by simp [hz]⟩
              · obtain ⟨c, v1, v2, v3, v4, ⟨c0, c1, c2, c3, c4⟩, ⟨f0, f1, f2, f3, f4⟩⟩ := hS.boolP (off hoff)
                obtain ⟨A1, A2, A3, e1, n1⟩ := h2.get (by simp [hp])
                subst e1
                refine wpOp_go rfl rfl (fun K hK => ?_)
                go_simp
                refine hK _ _ ?_
                obtain ⟨X, hX⟩ : ∃ X : World, X = set5 W' g9 (y) A1 A2 A3 := ⟨_, rfl⟩
                have hw : set5 W' g9 (y) A1 A2 A3 = X := hX.symm
                unfold set5 at hw
                rw [hw]
                subst hX
                exact ⟨_, _, _, _, rfl, hS.stP (off hoff) (by omega) (by decide) n1, h0.sP c0 (by decide), h1.sP c0 (by decide), h2.sP c0 (by decide), h3.sR c0 (by decide), On.new (on_mono (by simp [hp])), by simp [hz]⟩
              · obtain ⟨c, v1, v2, v3, v4, ⟨c0, c1, c2, c3, c4⟩, ⟨f0, f1, f2, f3, f4⟩⟩ := hS.boolR (off hoff)
                obtain ⟨A1, A2, A3, k1, k2, k3, e1, n1⟩ := h3.get (by simp [hp])
                subst e1
                refine wpOp_go rfl rfl (fun K hK => ?_)
                go_simp
                refine hK _ _ ?_
                obtain ⟨X, hX⟩ : ∃ X : World, X = set5c W' g11 (y) A1 A2 A3 k1 k2 k3 := ⟨_, rfl⟩
                have hw : set5c W' g11 (y) A1 A2 A3 k1 k2 k3 = X := hX.symm
                unfold set5c at hw
                rw [hw]
                subst hX
                exact ⟨_, _, _, _, rfl, hS.stR (off hoff) (by omega) (by decide) n1, h0.cP c0 (by decide), h1.cP c0 (by decide), h2.cP c0 (by decide), h3.cR c0 (by decide), hx.mono (by decide), by simp [hz]⟩
            · intro l a' W' hr hI
              obtain ⟨q0, q1, q2, q3, rfl, hS, h0, h1, h2, h3, hx, hz⟩ := hI
              have a0 := not_ready (i := 0) hr hz rfl (by simp [Region.binds])
              have a1 := not_ready (i := 1) hr hz rfl (by simp [Region.binds, a0])
              have a2 := not_ready (i := 2) hr hz rfl (by simp [Region.binds, a0, a1])
              have a3 := not_ready (i := 3) hr hz rfl (by simp [Region.binds, a0, a1, a2])
              have a4 := not_ready (i := 4) hr hz rfl (by simp [Region.binds, a0, a1, a2, a3])
              have a5 := not_ready (i := 5) hr hz rfl (by simp [Region.binds, a0, a1, a2, a3, a4])
              obtain ⟨⟨_, k1⟩, k2, ⟨_, k3⟩, k4, k5, _⟩ := hS
              have k1 := k1.get a4; have k3 := k3.get a5
              clear hr hz a0 a1 a2 a3 a4 a5 h0 h1 h2 h3 hx
              go_wp2_with fail
              go_meet
              exact ⟨y, 0, rfl, rfl, zy.mono (by decide), k1, k2, k3, k4, k5⟩
            · exact ⟨_, _, _, _, rfl, Sw.start v9 v10 v11 v12 HF.out HD.out H9.out, fun h => absurd h (by decide), fun h => absurd h (by decide), fun h => absurd h (by decide), fun h => absurd h (by decide), fun h => absurd h (by decide), by simp⟩
      obtain ⟨r, ec, q13, q14, zr, v9, v10, v11, v12, hB⟩ := hcut
      subst q13 q14
      have zy := HX.out.2
      replace hB := hB
      obtain ⟨A1, A2, A3, B1, B2, B3, C1, C2, C3, D1, D2, D3, c1, c2, c3, d1, d2, d3, HR0⟩ := Ro.mk v9 v10 v11 v12 hB
      clear v9 v10 v11 v12 hB HF
      obtain ⟨bs, hbs⟩ : ∃ b, decide (r = y) = b := ⟨_, rfl⟩
      obtain ⟨bz, hbz⟩ : ∃ b, decide (r = Cx.zero) = b := ⟨_, rfl⟩
      obtain ⟨nc, hnc⟩ : ∃ b, cmpC r y = b := ⟨_, rfl⟩
      obtain ⟨ns, hns⟩ : ∃ b, cmpZ (nb r) 0 = b := ⟨_, rfl⟩
      obtain ⟨br, hbr⟩ : ∃ b, decide (nb r = 0) = b := ⟨_, rfl⟩
      obtain ⟨cz, hcz⟩ : ∃ b, (!decide (r = Cx.zero)) = b := ⟨_, rfl⟩
      have HTZ := Lib.hid (show (cz == bz) = false by rw [← hcz, hbz]; cases bz <;> rfl)
      have HTB := Lib.hid (show (ns == 0) = br from (by rw [← hns, side_real, hbr] : decide (ns = 0) = br))
      replace hbs := Lib.hid hbs
      replace hbz := Lib.hid hbz
      replace hnc := Lib.hid hnc
      replace hns := Lib.hid hns
      replace hbr := Lib.hid hbr
      replace hcz := Lib.hid hcz
      go_upto_region 29 with fail
      refine wp_region_any (by kernel_rfl) ?_
      refine wpAny_inv (fun l a' w' => ∃ v : Nat → Value, OnAll l v (fun j => List.getD [.int .i64 ec, .int .i64 ec, .bool false, .bool false, AgP r A1 A2 A3, AgR r C1 C2 C3 c1 c2 c3, .bool true, .bool false, .bool false, .bool false, AgP r A1 A2 A3, .bool cz, AgR r C1 C2 C3 c1 c2 c3, .bool bz, .bool false, .bool false, .bool false, AgP r A1 A2 A3, AgP y B1 B2 B3, .bool bs, AgR r C1 C2 C3 c1 c2 c3, AgR y D1 D2 D3 d1 d2 d3, .bool bs, .bool false, .bool false, .bool false, AgP r A1 A2 A3, AgP y B1 B2 B3, .int .i64 nc, AgR r C1 C2 C3 c1 c2 c3, AgR y D1 D2 D3 d1 d2 d3, .int .i64 nc, .bool false, .bool false, .bool false, AgP r A1 A2 A3, .int .i64 ns, AgR r C1 C2 C3 c1 c2 c3, .int .i64 ns, .bool false, .bool false, .bool false, AgP r A1 A2 A3, .bool br, AgR r C1 C2 C3 c1 c2 c3, .int .i64 ns, .bool br, .bool false, .bool false] j undef) ∧ a' = ⟨List.toArray (.slice A n c :: .slice (some ⟨b, fo, none⟩) m d :: undef :: undef :: u4 :: .slice (some ⟨gl', 0, none⟩) n' cl :: .slice (some ⟨gm', 0, none⟩) n' cm :: undef :: .pointer (some ⟨g8, 0, none⟩) :: .pointer (some ⟨g9, 0, none⟩) :: .pointer (some ⟨g10, 0, none⟩) :: .pointer (some ⟨g11, 0, none⟩) :: .pointer (some ⟨g12, 0, none⟩) :: .int .i64 ec :: .int .i64 ec :: .slice A n c :: .int .i64 ↑n :: .bool false :: .bool false :: .slice A n c :: .int .i64 ↑n :: .bool false :: .bool false :: .bool false :: .slice (some ⟨b, fo, none⟩) m d :: .int .i64 ↑m :: .bool false :: .bool false :: undef :: .slice A n c :: .slice (some ⟨gl, 0, none⟩) n n :: .slice A n c :: .slice (some ⟨gm, 0, none⟩) n n :: .slice (some ⟨b, fo, none⟩) m d :: .int .i64 ↑m :: .int .i64 ↑k :: u36 :: u37 :: u38 :: u39 :: u40 :: u41 :: u42 :: u43 :: u44 :: u45 :: u46 :: u47 :: u48 :: u49 :: u50 :: u51 :: u52 :: u53 :: u54 :: u55 :: u56 :: u57 :: u58 :: u59 :: u60 :: u61 :: u62 :: u63 :: u64 :: u65 :: u66 :: u67 :: u68 :: u69 :: u70 :: u71 :: u72 :: u73 :: u74 :: u75 :: u76 :: .int .u8 (kk % 9) :: u78 :: u79 :: u80 :: u81 :: u82 :: u83 :: u84 :: u85 :: u86 :: u87 :: u88 :: u89 :: u90 :: u91 :: u92 :: u93 :: u94 :: u95 :: u96 :: u97 :: u98 :: u99 :: u100 :: u101 :: u102 :: u103 :: u104 :: u105 :: u106 :: u107 :: u108 :: u109 :: u110 :: u111 :: u112 :: u113 :: u114 :: u115 :: u116 :: u117 :: u118 :: u119 :: u120 :: u121 :: u122 :: u123 :: u124 :: u125 :: u126 :: u127 :: u128 :: u129 :: u130 :: u131 :: u132 :: u133 :: u134 :: u135 :: u136 :: u137 :: u138 :: u139 :: u140 :: u141 :: u142 :: u143 :: u144 :: u145 :: u146 :: u147 :: u148 :: u149 :: v 0 :: v 1 :: v 2 :: v 3 :: v 4 :: v 5 :: v 6 :: v 7 :: v 8 :: v 9 :: v 10 :: v 11 :: v 12 :: v 13 :: v 14 :: v 15 :: v 16 :: v 17 :: v 18 :: v 19 :: v 20 :: v 21 :: v 22 :: v 23 :: v 24 :: v 25 :: v 26 :: v 27 :: v 28 :: v 29 :: v 30 :: v 31 :: v 32 :: v 33 :: v 34 :: v 35 :: v 36 :: v 37 :: v 38 :: v 39 :: v 40 :: v 41 :: v 42 :: v 43 :: v 44 :: v 45 :: v 46 :: v 47 :: v 48 :: u199 :: u200 :: u201 :: u202 :: u203 :: u204 :: u205 :: u206 :: u207 :: u208 :: u209 :: u210 :: u211 :: u212 :: undef :: []), []⟩ ∧ (Ro W g9 g10 g11 g12 r y A1 A2 A3 B1 B2 B3 C1 C2 C3 D1 D2 D3 c1 c2 c3 d1 d2 d3 w') ∧ l.size = 49) ?_ ?_ _ _ _ _ (by decide) ?_
      · intro l a' W' i hi hI
        obtain ⟨v, hv, rfl, HW, hz⟩ := hI
        obtain ⟨hlt, _, hpre⟩ := ready_pre hi
        have hc : i ∈ [0, 1, 2, 3, 4, 5, 6, 7, 8, 9, 10, 11, 12, 13, 14, 15, 16, 17, 18, 19, 20, 21, 22, 23, 24, 25, 26, 27, 28, 29, 30, 31, 32, 33, 34, 35, 36, 37, 38, 39, 40, 41, 42, 43, 44, 45, 46, 47, 48] := (by decide : ∀ i, i < 49 → i ∈ [0, 1, 2, 3, 4, 5, 6, 7, 8, 9, 10, 11, 12, 13, 14, 15, 16, 17, 18, 19, 20, 21, 22, 23, 24, 25, 26, 27, 28, 29, 30, 31, 32, 33, 34, 35, 36, 37, 38, 39, 40, 41, 42, 43, 44, 45, 46, 47, 48]) i hlt
        simp only [List.mem_cons, List.not_mem_nil, or_false] at hc
        clear hi hlt
        rcases hc with rfl | rfl | rfl | rfl | rfl | rfl | rfl | rfl | rfl | rfl | rfl | rfl | rfl | rfl | rfl | rfl | rfl | rfl | rfl | rfl | rfl | rfl | rfl | rfl | rfl | rfl | rfl | rfl | rfl | rfl | rfl | rfl | rfl | rfl | rfl | rfl | rfl | rfl | rfl | rfl | rfl | rfl | rfl | rfl | rfl | rfl | rfl | rfl | rfl <;> (have hp := hpre _ rfl; simp [Region.binds] at hp; clear hpre)
        · as_aux_lemma =>
          have HV := Lib.hid hv
          clear hv hp
          refine wpOp_go rfl rfl (fun K hK => ?_)
          go_simp
          refine hK _ _ ?_
          exact ⟨_, HV.out.new (x := .int .i64 ec) rfl, rfl, HW, by simp [hz]⟩
        · as_aux_lemma =>
          have HV := Lib.hid hv
          clear hv hp
          refine wpOp_go rfl rfl (fun K hK => ?_)
          go_simp
          refine hK _ _ ?_
          exact ⟨_, HV.out.new (x := .int .i64 ec) rfl, rfl, HW, by simp [hz]⟩
        · as_aux_lemma =>
          have e0 : v 0 = .int .i64 ec := hv.get 0 (by simp [hp])
          have e1 : v 1 = .int .i64 ec := hv.get 1 (by simp [hp])
          have HV := Lib.hid ((hv.fix e0 rfl).fix (i := 1) (x := .int .i64 ec) e1 rfl)
          clear hv hp
          simp only [e0, e1]
          refine wpOp_go rfl rfl (fun K hK => ?_)
          go_simp
          refine hK _ _ ?_
          exact ⟨_, HV.out.new (x := .bool false) rfl, rfl, HW, by simp [hz]⟩
        · as_aux_lemma =>
          have e2 : v 2 = .bool false := hv.get 2 (by simp [hp])
          have HV := Lib.hid (hv.fix e2 rfl)
          clear hv hp
          simp only [e2]
          refine wpOp_go rfl rfl (fun K hK => ?_)
          go_simp
          refine hK _ _ ?_
          exact ⟨_, HV.out.new (x := .bool false) rfl, rfl, HW, by simp [hz]⟩
        · as_aux_lemma =>
          have e3 : v 3 = .bool false := hv.get 3 (by simp [hp])
          have HV := Lib.hid (hv.fix e3 rfl)
          clear hv hp
          simp only [e3]
          obtain ⟨z0, z1, z2, z3, z4⟩ := HW.c9
          refine wpOp_gg rfl rfl (fun K hK => ?_)
          go_simp
          refine hK _ _ ?_
          exact ⟨_, HV.out.new (x := AgP r A1 A2 A3) rfl, rfl, HW, by simp [hz]⟩
        · as_aux_lemma =>
          have e3 : v 3 = .bool false := hv.get 3 (by simp [hp])
          have HV := Lib.hid (hv.fix e3 rfl)
          clear hv hp
          simp only [e3]
          obtain ⟨z0, z1, z2, z3, z4⟩ := HW.c11
          refine wpOp_gg rfl rfl (fun K hK => ?_)
          go_simp
          refine hK _ _ ?_
          exact ⟨_, HV.out.new (x := AgR r C1 C2 C3 c1 c2 c3) rfl, rfl, HW, by simp [hz]⟩
        · as_aux_lemma =>
          have e4 : v 4 = AgP r A1 A2 A3 := hv.get 4 (by simp [hp])
          have e5 : v 5 = AgR r C1 C2 C3 c1 c2 c3 := hv.get 5 (by simp [hp])
          have e3 : v 3 = .bool false := hv.get 3 (by simp [hp])
          have HV := Lib.hid (((hv.fix e4 rfl).fix (i := 5) (x := AgR r C1 C2 C3 c1 c2 c3) e5 rfl).fix (i := 3) (x := .bool false) e3 rfl)
          clear hv hp
          simp only [e4, e5, e3, AgP, AgR]
          obtain ⟨n9, n10, n11, n12⟩ := HW.nums
          refine wpOp_gg rfl rfl (fun K hK => ?_)
          go_wp2_with (first | (go_at_call 45; refine (is_true r A1 A2 A3 C1 C2 C3 c1 c2 c3 _ n9 n11 (zr.mono (by decide))).mono ?_; rintro e w1 ⟨rfl, hb⟩))
          try refine hK _ _ ?_
          exact ⟨_, HV.out.new (x := .bool true) rfl, rfl, HW.to hb, by simp [hz]⟩
        · as_aux_lemma =>
          have e6 : v 6 = .bool true := hv.get 6 (by simp [hp])
          have e3 : v 3 = .bool false := hv.get 3 (by simp [hp])
          have HV := Lib.hid ((hv.fix e6 rfl).fix (i := 3) (x := .bool false) e3 rfl)
          clear hv hp
          simp only [e6, e3]
          refine wpOp_gg rfl rfl (fun K hK => ?_)
          go_simp
          refine hK _ _ ?_
          exact ⟨_, HV.out.new (x := .bool false) rfl, rfl, HW, by simp [hz]⟩
        · as_aux_lemma =>
          have e3 : v 3 = .bool false := hv.get 3 (by simp [hp])
          have e7 : v 7 = .bool false := hv.get 7 (by simp [hp])
          have HV := Lib.hid ((hv.fix e3 rfl).fix (i := 7) (x := .bool false) e7 rfl)
          clear hv hp
          simp only [e3, e7]
          refine wpOp_go rfl rfl (fun K hK => ?_)
          go_simp
          refine hK _ _ ?_
          exact ⟨_, HV.out.new (x := .bool false) rfl, rfl, HW, by simp [hz]⟩
        · as_aux_lemma =>
          have e8 : v 8 = .bool false := hv.get 8 (by simp [hp])
          have HV := Lib.hid (hv.fix e8 rfl)
          clear hv hp
          simp only [e8]
          refine wpOp_go rfl rfl (fun K hK => ?_)
          go_simp
          refine hK _ _ ?_
          exact ⟨_, HV.out.new (x := .bool false) rfl, rfl, HW, by simp [hz]⟩
        · as_aux_lemma =>
          have e9 : v 9 = .bool false := hv.get 9 (by simp [hp])
          have HV := Lib.hid (hv.fix e9 rfl)
          clear hv hp
          simp only [e9]
          obtain ⟨z0, z1, z2, z3, z4⟩ := HW.c9
          refine wpOp_gg rfl rfl (fun K hK => ?_)
          go_simp
          refine hK _ _ ?_
          exact ⟨_, HV.out.new (x := AgP r A1 A2 A3) rfl, rfl, HW, by simp [hz]⟩
        · as_aux_lemma =>
          have e10 : v 10 = AgP r A1 A2 A3 := hv.get 10 (by simp [hp])
          have e9 : v 9 = .bool false := hv.get 9 (by simp [hp])
          have HV := Lib.hid ((hv.fix e10 rfl).fix (i := 9) (x := .bool false) e9 rfl)
          clear hv hp
          simp only [e10, e9, AgP, AgR]
          obtain ⟨n9, n10, n11, n12⟩ := HW.nums
          refine wpOp_gg rfl rfl (fun K hK => ?_)
          go_wp2_with (first | (go_at_call 46; refine (clear_to r A1 A2 A3 _ n9 (zr.mono (by decide)) hcz.out).mono ?_; rintro e w1 ⟨rfl, hb⟩))
          try refine hK _ _ ?_
          exact ⟨_, HV.out.new (x := .bool cz) rfl, rfl, HW.to hb, by simp [hz]⟩
        · as_aux_lemma =>
          have e9 : v 9 = .bool false := hv.get 9 (by simp [hp])
          have HV := Lib.hid (hv.fix e9 rfl)
          clear hv hp
          simp only [e9]
          obtain ⟨z0, z1, z2, z3, z4⟩ := HW.c11
          refine wpOp_gg rfl rfl (fun K hK => ?_)
          go_simp
          refine hK _ _ ?_
          exact ⟨_, HV.out.new (x := AgR r C1 C2 C3 c1 c2 c3) rfl, rfl, HW, by simp [hz]⟩
        · as_aux_lemma =>
          have e12 : v 12 = AgR r C1 C2 C3 c1 c2 c3 := hv.get 12 (by simp [hp])
          have e9 : v 9 = .bool false := hv.get 9 (by simp [hp])
          have HV := Lib.hid ((hv.fix e12 rfl).fix (i := 9) (x := .bool false) e9 rfl)
          clear hv hp
          simp only [e12, e9, AgP, AgR]
          obtain ⟨n9, n10, n11, n12⟩ := HW.nums
          refine wpOp_gg rfl rfl (fun K hK => ?_)
          go_wp2_with (first | (go_at_call 47; refine (rzero_to r C1 C2 C3 c1 c2 c3 _ n11 hbz.out).mono ?_; rintro e w1 ⟨rfl, hb⟩))
          try refine hK _ _ ?_
          exact ⟨_, HV.out.new (x := .bool bz) rfl, rfl, HW.to hb, by simp [hz]⟩
        · as_aux_lemma =>
          have e11 : v 11 = .bool cz := hv.get 11 (by simp [hp])
          have e13 : v 13 = .bool bz := hv.get 13 (by simp [hp])
          have e9 : v 9 = .bool false := hv.get 9 (by simp [hp])
          have HV := Lib.hid (((hv.fix e11 rfl).fix (i := 13) (x := .bool bz) e13 rfl).fix (i := 9) (x := .bool false) e9 rfl)
          clear hv hp
          simp only [e11, e13, e9]
          have tz := HTZ.out
          refine wpOp_gg rfl rfl (fun K hK => ?_)
          go_simp
          refine hK _ _ ?_
          exact ⟨_, HV.out.new (x := .bool false) rfl, rfl, HW, by simp [hz]⟩
        · as_aux_lemma =>
          have e9 : v 9 = .bool false := hv.get 9 (by simp [hp])
          have e14 : v 14 = .bool false := hv.get 14 (by simp [hp])
          have HV := Lib.hid ((hv.fix e9 rfl).fix (i := 14) (x := .bool false) e14 rfl)
          clear hv hp
          simp only [e9, e14]
          refine wpOp_go rfl rfl (fun K hK => ?_)
          go_simp
          refine hK _ _ ?_
          exact ⟨_, HV.out.new (x := .bool false) rfl, rfl, HW, by simp [hz]⟩
        · as_aux_lemma =>
          have e15 : v 15 = .bool false := hv.get 15 (by simp [hp])
          have HV := Lib.hid (hv.fix e15 rfl)
          clear hv hp
          simp only [e15]
          refine wpOp_go rfl rfl (fun K hK => ?_)
          go_simp
          refine hK _ _ ?_
          exact ⟨_, HV.out.new (x := .bool false) rfl, rfl, HW, by simp [hz]⟩
        · as_aux_lemma =>
          have e16 : v 16 = .bool false := hv.get 16 (by simp [hp])
          have HV := Lib.hid (hv.fix e16 rfl)
          clear hv hp
          simp only [e16]
          obtain ⟨z0, z1, z2, z3, z4⟩ := HW.c9
          refine wpOp_gg rfl rfl (fun K hK => ?_)
          go_simp
          refine hK _ _ ?_
          exact ⟨_, HV.out.new (x := AgP r A1 A2 A3) rfl, rfl, HW, by simp [hz]⟩
        · as_aux_lemma =>
          have e16 : v 16 = .bool false := hv.get 16 (by simp [hp])
          have HV := Lib.hid (hv.fix e16 rfl)
          clear hv hp
          simp only [e16]
          obtain ⟨z0, z1, z2, z3, z4⟩ := HW.c10
          refine wpOp_gg rfl rfl (fun K hK => ?_)
          go_simp
          refine hK _ _ ?_
          exact ⟨_, HV.out.new (x := AgP y B1 B2 B3) rfl, rfl, HW, by simp [hz]⟩
        · as_aux_lemma =>
          have e17 : v 17 = AgP r A1 A2 A3 := hv.get 17 (by simp [hp])
          have e18 : v 18 = AgP y B1 B2 B3 := hv.get 18 (by simp [hp])
          have e16 : v 16 = .bool false := hv.get 16 (by simp [hp])
          have HV := Lib.hid (((hv.fix e17 rfl).fix (i := 18) (x := AgP y B1 B2 B3) e18 rfl).fix (i := 16) (x := .bool false) e16 rfl)
          clear hv hp
          simp only [e17, e18, e16, AgP, AgR]
          obtain ⟨n9, n10, n11, n12⟩ := HW.nums
          refine wpOp_gg rfl rfl (fun K hK => ?_)
          go_wp2_with (first | (go_at_call 48; refine (same_to r y A1 A2 A3 B1 B2 B3 _ n9 n10 (zr.mono (by decide)) (zy.mono (by decide)) hbs.out).mono ?_; rintro e w1 ⟨rfl, hb⟩))
          try refine hK _ _ ?_
          exact ⟨_, HV.out.new (x := .bool bs) rfl, rfl, HW.to hb, by simp [hz]⟩
        · as_aux_lemma =>
          have e16 : v 16 = .bool false := hv.get 16 (by simp [hp])
          have HV := Lib.hid (hv.fix e16 rfl)
          clear hv hp
          simp only [e16]
          obtain ⟨z0, z1, z2, z3, z4⟩ := HW.c11
          refine wpOp_gg rfl rfl (fun K hK => ?_)
          go_simp
          refine hK _ _ ?_
          exact ⟨_, HV.out.new (x := AgR r C1 C2 C3 c1 c2 c3) rfl, rfl, HW, by simp [hz]⟩
        · as_aux_lemma =>
          have e16 : v 16 = .bool false := hv.get 16 (by simp [hp])
          have HV := Lib.hid (hv.fix e16 rfl)
          clear hv hp
          simp only [e16]
          obtain ⟨z0, z1, z2, z3, z4⟩ := HW.c12
          refine wpOp_gg rfl rfl (fun K hK => ?_)
          go_simp
          refine hK _ _ ?_
          exact ⟨_, HV.out.new (x := AgR y D1 D2 D3 d1 d2 d3) rfl, rfl, HW, by simp [hz]⟩
        · as_aux_lemma =>
          have e20 : v 20 = AgR r C1 C2 C3 c1 c2 c3 := hv.get 20 (by simp [hp])
          have e21 : v 21 = AgR y D1 D2 D3 d1 d2 d3 := hv.get 21 (by simp [hp])
          have e16 : v 16 = .bool false := hv.get 16 (by simp [hp])
          have HV := Lib.hid (((hv.fix e20 rfl).fix (i := 21) (x := AgR y D1 D2 D3 d1 d2 d3) e21 rfl).fix (i := 16) (x := .bool false) e16 rfl)
          clear hv hp
          simp only [e20, e21, e16, AgP, AgR]
          obtain ⟨n9, n10, n11, n12⟩ := HW.nums
          refine wpOp_gg rfl rfl (fun K hK => ?_)
          go_wp2_with (first | (go_at_call 49; refine (rsame_to r y C1 C2 C3 D1 D2 D3 c1 c2 c3 d1 d2 d3 _ n11 n12 (zr.mono (by decide)) (zy.mono (by decide)) hbs.out).mono ?_; rintro e w1 ⟨rfl, hb⟩))
          try refine hK _ _ ?_
          exact ⟨_, HV.out.new (x := .bool bs) rfl, rfl, HW.to hb, by simp [hz]⟩
        · as_aux_lemma =>
          have e19 : v 19 = .bool bs := hv.get 19 (by simp [hp])
          have e22 : v 22 = .bool bs := hv.get 22 (by simp [hp])
          have e16 : v 16 = .bool false := hv.get 16 (by simp [hp])
          have HV := Lib.hid (((hv.fix e19 rfl).fix (i := 22) (x := .bool bs) e22 rfl).fix (i := 16) (x := .bool false) e16 rfl)
          clear hv hp
          simp only [e19, e22, e16]
          refine wpOp_gg rfl rfl (fun K hK => ?_)
          go_simp
          refine hK _ _ ?_
          exact ⟨_, HV.out.new (x := .bool false) rfl, rfl, HW, by simp [hz]⟩
        · as_aux_lemma =>
          have e16 : v 16 = .bool false := hv.get 16 (by simp [hp])
          have e23 : v 23 = .bool false := hv.get 23 (by simp [hp])
          have HV := Lib.hid ((hv.fix e16 rfl).fix (i := 23) (x := .bool false) e23 rfl)
          clear hv hp
          simp only [e16, e23]
          refine wpOp_go rfl rfl (fun K hK => ?_)
          go_simp
          refine hK _ _ ?_
          exact ⟨_, HV.out.new (x := .bool false) rfl, rfl, HW, by simp [hz]⟩
        · as_aux_lemma =>
          have e24 : v 24 = .bool false := hv.get 24 (by simp [hp])
          have HV := Lib.hid (hv.fix e24 rfl)
          clear hv hp
          simp only [e24]
          refine wpOp_go rfl rfl (fun K hK => ?_)
          go_simp
          refine hK _ _ ?_
          exact ⟨_, HV.out.new (x := .bool false) rfl, rfl, HW, by simp [hz]⟩
        · as_aux_lemma =>
          have e25 : v 25 = .bool false := hv.get 25 (by simp [hp])
          have HV := Lib.hid (hv.fix e25 rfl)
          clear hv hp
          simp only [e25]
          obtain ⟨z0, z1, z2, z3, z4⟩ := HW.c9
          refine wpOp_gg rfl rfl (fun K hK => ?_)
          go_simp
          refine hK _ _ ?_
          exact ⟨_, HV.out.new (x := AgP r A1 A2 A3) rfl, rfl, HW, by simp [hz]⟩
        · as_aux_lemma =>
          have e25 : v 25 = .bool false := hv.get 25 (by simp [hp])
          have HV := Lib.hid (hv.fix e25 rfl)
          clear hv hp
          simp only [e25]
          obtain ⟨z0, z1, z2, z3, z4⟩ := HW.c10
          refine wpOp_gg rfl rfl (fun K hK => ?_)
          go_simp
          refine hK _ _ ?_
          exact ⟨_, HV.out.new (x := AgP y B1 B2 B3) rfl, rfl, HW, by simp [hz]⟩
        · as_aux_lemma =>
          have e26 : v 26 = AgP r A1 A2 A3 := hv.get 26 (by simp [hp])
          have e27 : v 27 = AgP y B1 B2 B3 := hv.get 27 (by simp [hp])
          have e25 : v 25 = .bool false := hv.get 25 (by simp [hp])
          have HV := Lib.hid (((hv.fix e26 rfl).fix (i := 27) (x := AgP y B1 B2 B3) e27 rfl).fix (i := 25) (x := .bool false) e25 rfl)
          clear hv hp
          simp only [e26, e27, e25, AgP, AgR]
          obtain ⟨n9, n10, n11, n12⟩ := HW.nums
          refine wpOp_gg rfl rfl (fun K hK => ?_)
          go_wp2_with (first | (go_at_call 50; refine (cmp_to r y A1 A2 A3 B1 B2 B3 _ n9 n10 (zr.mono (by decide)) (zy.mono (by decide)) hnc.out).mono ?_; rintro e w1 ⟨rfl, hb⟩))
          try refine hK _ _ ?_
          exact ⟨_, HV.out.new (x := .int .i64 nc) rfl, rfl, HW.to hb, by simp [hz]⟩
        · as_aux_lemma =>
          have e25 : v 25 = .bool false := hv.get 25 (by simp [hp])
          have HV := Lib.hid (hv.fix e25 rfl)
          clear hv hp
          simp only [e25]
          obtain ⟨z0, z1, z2, z3, z4⟩ := HW.c11
          refine wpOp_gg rfl rfl (fun K hK => ?_)
          go_simp
          refine hK _ _ ?_
          exact ⟨_, HV.out.new (x := AgR r C1 C2 C3 c1 c2 c3) rfl, rfl, HW, by simp [hz]⟩
        · as_aux_lemma =>
          have e25 : v 25 = .bool false := hv.get 25 (by simp [hp])
          have HV := Lib.hid (hv.fix e25 rfl)
          clear hv hp
          simp only [e25]
          obtain ⟨z0, z1, z2, z3, z4⟩ := HW.c12
          refine wpOp_gg rfl rfl (fun K hK => ?_)
          go_simp
          refine hK _ _ ?_
          exact ⟨_, HV.out.new (x := AgR y D1 D2 D3 d1 d2 d3) rfl, rfl, HW, by simp [hz]⟩
        · as_aux_lemma =>
          have e29 : v 29 = AgR r C1 C2 C3 c1 c2 c3 := hv.get 29 (by simp [hp])
          have e30 : v 30 = AgR y D1 D2 D3 d1 d2 d3 := hv.get 30 (by simp [hp])
          have e25 : v 25 = .bool false := hv.get 25 (by simp [hp])
          have HV := Lib.hid (((hv.fix e29 rfl).fix (i := 30) (x := AgR y D1 D2 D3 d1 d2 d3) e30 rfl).fix (i := 25) (x := .bool false) e25 rfl)
          clear hv hp
          simp only [e29, e30, e25, AgP, AgR]
          obtain ⟨n9, n10, n11, n12⟩ := HW.nums
          refine wpOp_gg rfl rfl (fun K hK => ?_)
          go_wp2_with (first | (go_at_call 51; refine (rcmp_to r y C1 C2 C3 D1 D2 D3 c1 c2 c3 d1 d2 d3 _ n11 n12 (zr.mono (by decide)) (zy.mono (by decide)) hnc.out).mono ?_; rintro e w1 ⟨rfl, hb⟩))
          try refine hK _ _ ?_
          exact ⟨_, HV.out.new (x := .int .i64 nc) rfl, rfl, HW.to hb, by simp [hz]⟩
        · as_aux_lemma =>
          have e28 : v 28 = .int .i64 nc := hv.get 28 (by simp [hp])
          have e31 : v 31 = .int .i64 nc := hv.get 31 (by simp [hp])
          have e25 : v 25 = .bool false := hv.get 25 (by simp [hp])
          have HV := Lib.hid (((hv.fix e28 rfl).fix (i := 31) (x := .int .i64 nc) e31 rfl).fix (i := 25) (x := .bool false) e25 rfl)
          clear hv hp
          simp only [e28, e31, e25]
          refine wpOp_gg rfl rfl (fun K hK => ?_)
          go_simp
          refine hK _ _ ?_
          exact ⟨_, HV.out.new (x := .bool false) rfl, rfl, HW, by simp [hz]⟩
        · as_aux_lemma =>
          have e25 : v 25 = .bool false := hv.get 25 (by simp [hp])
          have e32 : v 32 = .bool false := hv.get 32 (by simp [hp])
          have HV := Lib.hid ((hv.fix e25 rfl).fix (i := 32) (x := .bool false) e32 rfl)
          clear hv hp
          simp only [e25, e32]
          refine wpOp_go rfl rfl (fun K hK => ?_)
          go_simp
          refine hK _ _ ?_
          exact ⟨_, HV.out.new (x := .bool false) rfl, rfl, HW, by simp [hz]⟩
        · as_aux_lemma =>
          have e33 : v 33 = .bool false := hv.get 33 (by simp [hp])
          have HV := Lib.hid (hv.fix e33 rfl)
          clear hv hp
          simp only [e33]
          refine wpOp_go rfl rfl (fun K hK => ?_)
          go_simp
          refine hK _ _ ?_
          exact ⟨_, HV.out.new (x := .bool false) rfl, rfl, HW, by simp [hz]⟩
        · as_aux_lemma =>
          have e34 : v 34 = .bool false := hv.get 34 (by simp [hp])
          have HV := Lib.hid (hv.fix e34 rfl)
          clear hv hp
          simp only [e34]
          obtain ⟨z0, z1, z2, z3, z4⟩ := HW.c9
          refine wpOp_gg rfl rfl (fun K hK => ?_)
          go_simp
          refine hK _ _ ?_
          exact ⟨_, HV.out.new (x := AgP r A1 A2 A3) rfl, rfl, HW, by simp [hz]⟩
        · as_aux_lemma =>
          have e35 : v 35 = AgP r A1 A2 A3 := hv.get 35 (by simp [hp])
          have e34 : v 34 = .bool false := hv.get 34 (by simp [hp])
          have HV := Lib.hid ((hv.fix e35 rfl).fix (i := 34) (x := .bool false) e34 rfl)
          clear hv hp
          simp only [e35, e34, AgP, AgR]
          obtain ⟨n9, n10, n11, n12⟩ := HW.nums
          refine wpOp_gg rfl rfl (fun K hK => ?_)
          go_wp2_with (first | (go_at_call 52; refine (side_to r A1 A2 A3 _ n9 (zr.mono (by decide)) hns.out).mono ?_; rintro e w1 ⟨rfl, hb⟩))
          try refine hK _ _ ?_
          exact ⟨_, HV.out.new (x := .int .i64 ns) rfl, rfl, HW.to hb, by simp [hz]⟩
        · as_aux_lemma =>
          have e34 : v 34 = .bool false := hv.get 34 (by simp [hp])
          have HV := Lib.hid (hv.fix e34 rfl)
          clear hv hp
          simp only [e34]
          obtain ⟨z0, z1, z2, z3, z4⟩ := HW.c11
          refine wpOp_gg rfl rfl (fun K hK => ?_)
          go_simp
          refine hK _ _ ?_
          exact ⟨_, HV.out.new (x := AgR r C1 C2 C3 c1 c2 c3) rfl, rfl, HW, by simp [hz]⟩
        · as_aux_lemma =>
          have e37 : v 37 = AgR r C1 C2 C3 c1 c2 c3 := hv.get 37 (by simp [hp])
          have e34 : v 34 = .bool false := hv.get 34 (by simp [hp])
          have HV := Lib.hid ((hv.fix e37 rfl).fix (i := 34) (x := .bool false) e34 rfl)
          clear hv hp
          simp only [e37, e34, AgP, AgR]
          obtain ⟨n9, n10, n11, n12⟩ := HW.nums
          refine wpOp_gg rfl rfl (fun K hK => ?_)
          go_wp2_with (first | (go_at_call 53; refine (rside_to r C1 C2 C3 c1 c2 c3 _ n11 (zr.mono (by decide)) hns.out).mono ?_; rintro e w1 ⟨rfl, hb⟩))
          try refine hK _ _ ?_
          exact ⟨_, HV.out.new (x := .int .i64 ns) rfl, rfl, HW.to hb, by simp [hz]⟩
        · as_aux_lemma =>
          have e36 : v 36 = .int .i64 ns := hv.get 36 (by simp [hp])
          have e38 : v 38 = .int .i64 ns := hv.get 38 (by simp [hp])
          have e34 : v 34 = .bool false := hv.get 34 (by simp [hp])
          have HV := Lib.hid (((hv.fix e36 rfl).fix (i := 38) (x := .int .i64 ns) e38 rfl).fix (i := 34) (x := .bool false) e34 rfl)
          clear hv hp
          simp only [e36, e38, e34]
          refine wpOp_gg rfl rfl (fun K hK => ?_)
          go_simp
          refine hK _ _ ?_
          exact ⟨_, HV.out.new (x := .bool false) rfl, rfl, HW, by simp [hz]⟩
        · as_aux_lemma =>
          have e34 : v 34 = .bool false := hv.get 34 (by simp [hp])
          have e39 : v 39 = .bool false := hv.get 39 (by simp [hp])
          have HV := Lib.hid ((hv.fix e34 rfl).fix (i := 39) (x := .bool false) e39 rfl)
          clear hv hp
          simp only [e34, e39]
          refine wpOp_go rfl rfl (fun K hK => ?_)
          go_simp
          refine hK _ _ ?_
          exact ⟨_, HV.out.new (x := .bool false) rfl, rfl, HW, by simp [hz]⟩
        · as_aux_lemma =>
          have e40 : v 40 = .bool false := hv.get 40 (by simp [hp])
          have HV := Lib.hid (hv.fix e40 rfl)
          clear hv hp
          simp only [e40]
          refine wpOp_go rfl rfl (fun K hK => ?_)
          go_simp
          refine hK _ _ ?_
          exact ⟨_, HV.out.new (x := .bool false) rfl, rfl, HW, by simp [hz]⟩
        · as_aux_lemma =>
          have e41 : v 41 = .bool false := hv.get 41 (by simp [hp])
          have HV := Lib.hid (hv.fix e41 rfl)
          clear hv hp
          simp only [e41]
          obtain ⟨z0, z1, z2, z3, z4⟩ := HW.c9
          refine wpOp_gg rfl rfl (fun K hK => ?_)
          go_simp
          refine hK _ _ ?_
          exact ⟨_, HV.out.new (x := AgP r A1 A2 A3) rfl, rfl, HW, by simp [hz]⟩
        · as_aux_lemma =>
          have e42 : v 42 = AgP r A1 A2 A3 := hv.get 42 (by simp [hp])
          have e41 : v 41 = .bool false := hv.get 41 (by simp [hp])
          have HV := Lib.hid ((hv.fix e42 rfl).fix (i := 41) (x := .bool false) e41 rfl)
          clear hv hp
          simp only [e42, e41, AgP, AgR]
          obtain ⟨n9, n10, n11, n12⟩ := HW.nums
          refine wpOp_gg rfl rfl (fun K hK => ?_)
          go_wp2_with (first | (go_at_call 54; refine (real_to r A1 A2 A3 _ n9 hbr.out).mono ?_; rintro e w1 ⟨rfl, hb⟩))
          try refine hK _ _ ?_
          exact ⟨_, HV.out.new (x := .bool br) rfl, rfl, HW.to hb, by simp [hz]⟩
        · as_aux_lemma =>
          have e41 : v 41 = .bool false := hv.get 41 (by simp [hp])
          have HV := Lib.hid (hv.fix e41 rfl)
          clear hv hp
          simp only [e41]
          obtain ⟨z0, z1, z2, z3, z4⟩ := HW.c11
          refine wpOp_gg rfl rfl (fun K hK => ?_)
          go_simp
          refine hK _ _ ?_
          exact ⟨_, HV.out.new (x := AgR r C1 C2 C3 c1 c2 c3) rfl, rfl, HW, by simp [hz]⟩
        · as_aux_lemma =>
          have e44 : v 44 = AgR r C1 C2 C3 c1 c2 c3 := hv.get 44 (by simp [hp])
          have e41 : v 41 = .bool false := hv.get 41 (by simp [hp])
          have HV := Lib.hid ((hv.fix e44 rfl).fix (i := 41) (x := .bool false) e41 rfl)
          clear hv hp
          simp only [e44, e41, AgP, AgR]
          obtain ⟨n9, n10, n11, n12⟩ := HW.nums
          refine wpOp_gg rfl rfl (fun K hK => ?_)
          go_wp2_with (first | (go_at_call 53; refine (rside_to r C1 C2 C3 c1 c2 c3 _ n11 (zr.mono (by decide)) hns.out).mono ?_; rintro e w1 ⟨rfl, hb⟩))
          try refine hK _ _ ?_
          exact ⟨_, HV.out.new (x := .int .i64 ns) rfl, rfl, HW.to hb, by simp [hz]⟩
        · as_aux_lemma =>
          have e45 : v 45 = .int .i64 ns := hv.get 45 (by simp [hp])
          have e41 : v 41 = .bool false := hv.get 41 (by simp [hp])
          have HV := Lib.hid ((hv.fix e45 rfl).fix (i := 41) (x := .bool false) e41 rfl)
          clear hv hp
          simp only [e45, e41]
          have tb := HTB.out
          refine wpOp_gg rfl rfl (fun K hK => ?_)
          go_simp
          refine hK _ _ ?_
          exact ⟨_, HV.out.new (x := .bool br) rfl, rfl, HW, by simp [hz]⟩
        · as_aux_lemma =>
          have e43 : v 43 = .bool br := hv.get 43 (by simp [hp])
          have e46 : v 46 = .bool br := hv.get 46 (by simp [hp])
          have e41 : v 41 = .bool false := hv.get 41 (by simp [hp])
          have HV := Lib.hid (((hv.fix e43 rfl).fix (i := 46) (x := .bool br) e46 rfl).fix (i := 41) (x := .bool false) e41 rfl)
          clear hv hp
          simp only [e43, e46, e41]
          refine wpOp_gg rfl rfl (fun K hK => ?_)
          go_simp
          refine hK _ _ ?_
          exact ⟨_, HV.out.new (x := .bool false) rfl, rfl, HW, by simp [hz]⟩
        · as_aux_lemma =>
          have e41 : v 41 = .bool false := hv.get 41 (by simp [hp])
          have e47 : v 47 = .bool false := hv.get 47 (by simp [hp])
          have HV := Lib.hid ((hv.fix e41 rfl).fix (i := 47) (x := .bool false) e47 rfl)
          clear hv hp
          simp only [e41, e47]
          refine wpOp_go rfl rfl (fun K hK => ?_)
          go_simp
          refine hK _ _ ?_
          exact ⟨_, HV.out.new (x := .bool false) rfl, rfl, HW, by simp [hz]⟩
      · intro l a' W' hr hI
        obtain ⟨v, hv, rfl, HW, hz⟩ := hI
        have a0 := not_ready (i := 0) hr hz rfl (by simp [Region.binds])
        have a1 := not_ready (i := 1) hr hz rfl (by simp [Region.binds, a0])
        have a2 := not_ready (i := 2) hr hz rfl (by simp [Region.binds, a0, a1])
        have a3 := not_ready (i := 3) hr hz rfl (by simp [Region.binds, a0, a1, a2])
        have a4 := not_ready (i := 4) hr hz rfl (by simp [Region.binds, a0, a1, a2, a3])
        have a5 := not_ready (i := 5) hr hz rfl (by simp [Region.binds, a0, a1, a2, a3, a4])
        have a6 := not_ready (i := 6) hr hz rfl (by simp [Region.binds, a0, a1, a2, a3, a4, a5])
        have a7 := not_ready (i := 7) hr hz rfl (by simp [Region.binds, a0, a1, a2, a3, a4, a5, a6])
        have a8 := not_ready (i := 8) hr hz rfl (by simp [Region.binds, a0, a1, a2, a3, a4, a5, a6, a7])
        have a9 := not_ready (i := 9) hr hz rfl (by simp [Region.binds, a0, a1, a2, a3, a4, a5, a6, a7, a8])
        have a10 := not_ready (i := 10) hr hz rfl (by simp [Region.binds, a0, a1, a2, a3, a4, a5, a6, a7, a8, a9])
        have a11 := not_ready (i := 11) hr hz rfl (by simp [Region.binds, a0, a1, a2, a3, a4, a5, a6, a7, a8, a9, a10])
        have a12 := not_ready (i := 12) hr hz rfl (by simp [Region.binds, a0, a1, a2, a3, a4, a5, a6, a7, a8, a9, a10, a11])
        have a13 := not_ready (i := 13) hr hz rfl (by simp [Region.binds, a0, a1, a2, a3, a4, a5, a6, a7, a8, a9, a10, a11, a12])
        have a14 := not_ready (i := 14) hr hz rfl (by simp [Region.binds, a0, a1, a2, a3, a4, a5, a6, a7, a8, a9, a10, a11, a12, a13])
        have a15 := not_ready (i := 15) hr hz rfl (by simp [Region.binds, a0, a1, a2, a3, a4, a5, a6, a7, a8, a9, a10, a11, a12, a13, a14])
        have a16 := not_ready (i := 16) hr hz rfl (by simp [Region.binds, a0, a1, a2, a3, a4, a5, a6, a7, a8, a9, a10, a11, a12, a13, a14, a15])
        have a17 := not_ready (i := 17) hr hz rfl (by simp [Region.binds, a0, a1, a2, a3, a4, a5, a6, a7, a8, a9, a10, a11, a12, a13, a14, a15, a16])
        have a18 := not_ready (i := 18) hr hz rfl (by simp [Region.binds, a0, a1, a2, a3, a4, a5, a6, a7, a8, a9, a10, a11, a12, a13, a14, a15, a16, a17])
        have a19 := not_ready (i := 19) hr hz rfl (by simp [Region.binds, a0, a1, a2, a3, a4, a5, a6, a7, a8, a9, a10, a11, a12, a13, a14, a15, a16, a17, a18])
        have a20 := not_ready (i := 20) hr hz rfl (by simp [Region.binds, a0, a1, a2, a3, a4, a5, a6, a7, a8, a9, a10, a11, a12, a13, a14, a15, a16, a17, a18, a19])
        have a21 := not_ready (i := 21) hr hz rfl (by simp [Region.binds, a0, a1, a2, a3, a4, a5, a6, a7, a8, a9, a10, a11, a12, a13, a14, a15, a16, a17, a18, a19, a20])
        have a22 := not_ready (i := 22) hr hz rfl (by simp [Region.binds, a0, a1, a2, a3, a4, a5, a6, a7, a8, a9, a10, a11, a12, a13, a14, a15, a16, a17, a18, a19, a20, a21])
        have a23 := not_ready (i := 23) hr hz rfl (by simp [Region.binds, a0, a1, a2, a3, a4, a5, a6, a7, a8, a9, a10, a11, a12, a13, a14, a15, a16, a17, a18, a19, a20, a21, a22])
        have a24 := not_ready (i := 24) hr hz rfl (by simp [Region.binds, a0, a1, a2, a3, a4, a5, a6, a7, a8, a9, a10, a11, a12, a13, a14, a15, a16, a17, a18, a19, a20, a21, a22, a23])
        have a25 := not_ready (i := 25) hr hz rfl (by simp [Region.binds, a0, a1, a2, a3, a4, a5, a6, a7, a8, a9, a10, a11, a12, a13, a14, a15, a16, a17, a18, a19, a20, a21, a22, a23, a24])
        have a26 := not_ready (i := 26) hr hz rfl (by simp [Region.binds, a0, a1, a2, a3, a4, a5, a6, a7, a8, a9, a10, a11, a12, a13, a14, a15, a16, a17, a18, a19, a20, a21, a22, a23, a24, a25])
        have a27 := not_ready (i := 27) hr hz rfl (by simp [Region.binds, a0, a1, a2, a3, a4, a5, a6, a7, a8, a9, a10, a11, a12, a13, a14, a15, a16, a17, a18, a19, a20, a21, a22, a23, a24, a25, a26])
        have a28 := not_ready (i := 28) hr hz rfl (by simp [Region.binds, a0, a1, a2, a3, a4, a5, a6, a7, a8, a9, a10, a11, a12, a13, a14, a15, a16, a17, a18, a19, a20, a21, a22, a23, a24, a25, a26, a27])
        have a29 := not_ready (i := 29) hr hz rfl (by simp [Region.binds, a0, a1, a2, a3, a4, a5, a6, a7, a8, a9, a10, a11, a12, a13, a14, a15, a16, a17, a18, a19, a20, a21, a22, a23, a24, a25, a26, a27, a28])
        have a30 := not_ready (i := 30) hr hz rfl (by simp [Region.binds, a0, a1, a2, a3, a4, a5, a6, a7, a8, a9, a10, a11, a12, a13, a14, a15, a16, a17, a18, a19, a20, a21, a22, a23, a24, a25, a26, a27, a28, a29])
        have a31 := not_ready (i := 31) hr hz rfl (by simp [Region.binds, a0, a1, a2, a3, a4, a5, a6, a7, a8, a9, a10, a11, a12, a13, a14, a15, a16, a17, a18, a19, a20, a21, a22, a23, a24, a25, a26, a27, a28, a29, a30])
        have a32 := not_ready (i := 32) hr hz rfl (by simp [Region.binds, a0, a1, a2, a3, a4, a5, a6, a7, a8, a9, a10, a11, a12, a13, a14, a15, a16, a17, a18, a19, a20, a21, a22, a23, a24, a25, a26, a27, a28, a29, a30, a31])
        have a33 := not_ready (i := 33) hr hz rfl (by simp [Region.binds, a0, a1, a2, a3, a4, a5, a6, a7, a8, a9, a10, a11, a12, a13, a14, a15, a16, a17, a18, a19, a20, a21, a22, a23, a24, a25, a26, a27, a28, a29, a30, a31, a32])
        have a34 := not_ready (i := 34) hr hz rfl (by simp [Region.binds, a0, a1, a2, a3, a4, a5, a6, a7, a8, a9, a10, a11, a12, a13, a14, a15, a16, a17, a18, a19, a20, a21, a22, a23, a24, a25, a26, a27, a28, a29, a30, a31, a32, a33])
        have a35 := not_ready (i := 35) hr hz rfl (by simp [Region.binds, a0, a1, a2, a3, a4, a5, a6, a7, a8, a9, a10, a11, a12, a13, a14, a15, a16, a17, a18, a19, a20, a21, a22, a23, a24, a25, a26, a27, a28, a29, a30, a31, a32, a33, a34])
        have a36 := not_ready (i := 36) hr hz rfl (by simp [Region.binds, a0, a1, a2, a3, a4, a5, a6, a7, a8, a9, a10, a11, a12, a13, a14, a15, a16, a17, a18, a19, a20, a21, a22, a23, a24, a25, a26, a27, a28, a29, a30, a31, a32, a33, a34, a35])
        have a37 := not_ready (i := 37) hr hz rfl (by simp [Region.binds, a0, a1, a2, a3, a4, a5, a6, a7, a8, a9, a10, a11, a12, a13, a14, a15, a16, a17, a18, a19, a20, a21, a22, a23, a24, a25, a26, a27, a28, a29, a30, a31, a32, a33, a34, a35, a36])
        have a38 := not_ready (i := 38) hr hz rfl (by simp [Region.binds, a0, a1, a2, a3, a4, a5, a6, a7, a8, a9, a10, a11, a12, a13, a14, a15, a16, a17, a18, a19, a20, a21, a22, a23, a24, a25, a26, a27, a28, a29, a30, a31, a32, a33, a34, a35, a36, a37])
        have a39 := not_ready (i := 39) hr hz rfl (by simp [Region.binds, a0, a1, a2, a3, a4, a5, a6, a7, a8, a9, a10, a11, a12, a13, a14, a15, a16, a17, a18, a19, a20, a21, a22, a23, a24, a25, a26, a27, a28, a29, a30, a31, a32, a33, a34, a35, a36, a37, a38])
        have a40 := not_ready (i := 40) hr hz rfl (by simp [Region.binds, a0, a1, a2, a3, a4, a5, a6, a7, a8, a9, a10, a11, a12, a13, a14, a15, a16, a17, a18, a19, a20, a21, a22, a23, a24, a25, a26, a27, a28, a29, a30, a31, a32, a33, a34, a35, a36, a37, a38, a39])
        have a41 := not_ready (i := 41) hr hz rfl (by simp [Region.binds, a0, a1, a2, a3, a4, a5, a6, a7, a8, a9, a10, a11, a12, a13, a14, a15, a16, a17, a18, a19, a20, a21, a22, a23, a24, a25, a26, a27, a28, a29, a30, a31, a32, a33, a34, a35, a36, a37, a38, a39, a40])
        have a42 := not_ready (i := 42) hr hz rfl (by simp [Region.binds, a0, a1, a2, a3, a4, a5, a6, a7, a8, a9, a10, a11, a12, a13, a14, a15, a16, a17, a18, a19, a20, a21, a22, a23, a24, a25, a26, a27, a28, a29, a30, a31, a32, a33, a34, a35, a36, a37, a38, a39, a40, a41])
        have a43 := not_ready (i := 43) hr hz rfl (by simp [Region.binds, a0, a1, a2, a3, a4, a5, a6, a7, a8, a9, a10, a11, a12, a13, a14, a15, a16, a17, a18, a19, a20, a21, a22, a23, a24, a25, a26, a27, a28, a29, a30, a31, a32, a33, a34, a35, a36, a37, a38, a39, a40, a41, a42])
        have a44 := not_ready (i := 44) hr hz rfl (by simp [Region.binds, a0, a1, a2, a3, a4, a5, a6, a7, a8, a9, a10, a11, a12, a13, a14, a15, a16, a17, a18, a19, a20, a21, a22, a23, a24, a25, a26, a27, a28, a29, a30, a31, a32, a33, a34, a35, a36, a37, a38, a39, a40, a41, a42, a43])
        have a45 := not_ready (i := 45) hr hz rfl (by simp [Region.binds, a0, a1, a2, a3, a4, a5, a6, a7, a8, a9, a10, a11, a12, a13, a14, a15, a16, a17, a18, a19, a20, a21, a22, a23, a24, a25, a26, a27, a28, a29, a30, a31, a32, a33, a34, a35, a36, a37, a38, a39, a40, a41, a42, a43, a44])
        have a46 := not_ready (i := 46) hr hz rfl (by simp [Region.binds, a0, a1, a2, a3, a4, a5, a6, a7, a8, a9, a10, a11, a12, a13, a14, a15, a16, a17, a18, a19, a20, a21, a22, a23, a24, a25, a26, a27, a28, a29, a30, a31, a32, a33, a34, a35, a36, a37, a38, a39, a40, a41, a42, a43, a44, a45])
        have a47 := not_ready (i := 47) hr hz rfl (by simp [Region.binds, a0, a1, a2, a3, a4, a5, a6, a7, a8, a9, a10, a11, a12, a13, a14, a15, a16, a17, a18, a19, a20, a21, a22, a23, a24, a25, a26, a27, a28, a29, a30, a31, a32, a33, a34, a35, a36, a37, a38, a39, a40, a41, a42, a43, a44, a45, a46])
        have a48 := not_ready (i := 48) hr hz rfl (by simp [Region.binds, a0, a1, a2, a3, a4, a5, a6, a7, a8, a9, a10, a11, a12, a13, a14, a15, a16, a17, a18, a19, a20, a21, a22, a23, a24, a25, a26, a27, a28, a29, a30, a31, a32, a33, a34, a35, a36, a37, a38, a39, a40, a41, a42, a43, a44, a45, a46, a47])
        clear hr
        have e48 : v 48 = .bool false := hv.get 48 a48
        simp only [e48]
        clear hv e48 hz a0 a1 a2 a3 a4 a5 a6 a7 a8 a9 a10 a11 a12 a13 a14 a15 a16 a17 a18 a19 a20 a21 a22 a23 a24 a25 a26 a27 a28 a29 a30 a31 a32 a33 a34 a35 a36 a37 a38 a39 a40 a41 a42 a43 a44 a45 a46 a47 a48
        clear hbs hbz hnc hns hbr hcz HTZ HTB
        obtain ⟨v9, v10, v11, v12, hB⟩ := HW.fin
        clear HW HR0
        obtain ⟨E1, E2, E3, e1, e2, e3, ⟨x0, x1, x2, x3, x4⟩, n11⟩ := v11.c5
        obtain ⟨s, hs⟩ : ∃ s, s = textT r := ⟨_, rfl⟩
        have HSS := Lib.hid hs
        go_wp2_with fail
        refine (rtextq_any r E1 E2 E3 e1 e2 e3 _ n11 (zr.mono (by decide))).mono ?_
        rintro e w1 ⟨rfl, hb⟩
        rw [← HSS.out]
        replace v9 := v9.to hb; replace v10 := v10.to hb; replace v11 := v11.to hb; replace v12 := v12.to hb; replace hB := hB.trans (hb.mono hB.size)
        clear x0 x1 x2 x3 x4 n11 hb hs
        by_cases h3 : s.size ≤ 3000
        · have zr2 : sz 750 r := text_small (by rw [← HSS.out]; exact h3)
          have t3 : decide ((3000 : Int) < (s.size : Int)) = false := by rw [decide_eq_false_iff_not]; omega
          have H3 := Lib.hid h3
          clear h3
          go_upto_region 33 with fail
          have h2 := H2.out.to hB
          obtain ⟨F, hF1, hF2⟩ := fun_more f' n' r
          have HS0 : St w gl' cl n' gm' cm n' F g9 g11 r w1 := by
            obtain ⟨h21, h22, h23, h24⟩ := H2.out.to hB
            obtain ⟨l1, l2⟩ := H2.out.lt hn1
            have h9 := H9.out; have hd := HD.out
            exact ⟨h21, h22, fun i hi => by rw [hF1 i hi]; exact (h23 i hi).1, fun i hi => by rw [hF1 i hi]; exact (h23 i hi).2, h24, v9, v11, by omega, HBB.out.trans (hB.mono HBB.out.size), hn1, hn1⟩
          clear v9 v10 v11 v12 hB h2
          refine wp_region_any (by kernel_rfl) ?_
          refine wpAny_inv (fun l a' w' => ∃ (v5 v6 yy0 yy1 yy2 yy3 yy4 yy5 yy6 yy7 : Value) (pl dl nl pm dm nm : Nat), a' = ⟨List.toArray (.slice A n c :: .slice (some ⟨b, fo, none⟩) m d :: undef :: undef :: u4 :: v5 :: v6 :: undef :: .pointer (some ⟨g8, 0, none⟩) :: .pointer (some ⟨g9, 0, none⟩) :: .pointer (some ⟨g10, 0, none⟩) :: .pointer (some ⟨g11, 0, none⟩) :: .pointer (some ⟨g12, 0, none⟩) :: .int .i64 ec :: .int .i64 ec :: .slice A n c :: .int .i64 ↑n :: .bool false :: .bool false :: .slice A n c :: .int .i64 ↑n :: .bool false :: .bool false :: .bool false :: .slice (some ⟨b, fo, none⟩) m d :: .int .i64 ↑m :: .bool false :: .bool false :: undef :: .slice A n c :: .slice (some ⟨gl, 0, none⟩) n n :: .slice A n c :: .slice (some ⟨gm, 0, none⟩) n n :: .slice (some ⟨b, fo, none⟩) m d :: .int .i64 ↑m :: .int .i64 ↑k :: u36 :: u37 :: u38 :: u39 :: u40 :: u41 :: u42 :: u43 :: u44 :: u45 :: u46 :: u47 :: u48 :: u49 :: u50 :: u51 :: u52 :: u53 :: u54 :: u55 :: u56 :: u57 :: u58 :: u59 :: u60 :: u61 :: u62 :: u63 :: u64 :: u65 :: u66 :: u67 :: u68 :: u69 :: u70 :: u71 :: u72 :: u73 :: u74 :: u75 :: u76 :: .int .u8 (kk % 9) :: u78 :: u79 :: u80 :: u81 :: u82 :: u83 :: u84 :: u85 :: u86 :: u87 :: u88 :: u89 :: u90 :: u91 :: u92 :: u93 :: u94 :: u95 :: u96 :: u97 :: u98 :: u99 :: u100 :: u101 :: u102 :: u103 :: u104 :: u105 :: u106 :: u107 :: u108 :: u109 :: u110 :: u111 :: u112 :: u113 :: u114 :: u115 :: u116 :: u117 :: u118 :: u119 :: u120 :: u121 :: u122 :: u123 :: u124 :: u125 :: u126 :: u127 :: u128 :: u129 :: u130 :: u131 :: u132 :: u133 :: u134 :: u135 :: u136 :: u137 :: u138 :: u139 :: u140 :: u141 :: u142 :: u143 :: u144 :: u145 :: u146 :: u147 :: u148 :: u149 :: v 0 :: v 1 :: v 2 :: v 3 :: v 4 :: v 5 :: v 6 :: v 7 :: v 8 :: v 9 :: v 10 :: v 11 :: v 12 :: v 13 :: v 14 :: v 15 :: v 16 :: v 17 :: v 18 :: v 19 :: v 20 :: v 21 :: v 22 :: v 23 :: v 24 :: v 25 :: v 26 :: v 27 :: v 28 :: v 29 :: v 30 :: v 31 :: v 32 :: v 33 :: v 34 :: v 35 :: v 36 :: v 37 :: v 38 :: v 39 :: v 40 :: v 41 :: v 42 :: v 43 :: v 44 :: v 45 :: v 46 :: v 47 :: .bool false :: .agg #[.bool (sn (na r)), .slice E1 (ln (ab (na r))) e1, .bool (sn (nb r)), .slice E2 (ln (ab (nb r))) e2, .slice E3 (ln (nd r)) e3] :: .string s :: .int .i64 ↑s.size :: .bool false :: u203 :: yy0 :: yy1 :: yy2 :: yy3 :: yy4 :: yy5 :: yy6 :: yy7 :: u212 :: undef :: []), []⟩ ∧ St w pl dl nl pm dm nm F g9 g11 r w' ∧ Off l 3 (pl = gl' ∧ dl = cl ∧ nl = n') ∧ On l 3 (yy3 = .slice (some ⟨pl, 0, none⟩) nl dl ∧ nl = n' + 1) ∧ Off l 7 (pm = gm' ∧ dm = cm ∧ nm = n') ∧ On l 7 (yy7 = .slice (some ⟨pm, 0, none⟩) nm dm ∧ nm = n' + 1) ∧ On l 0 (yy0 = (.slice (some ⟨gl', 0, none⟩) n' cl)) ∧ On l 4 (yy4 = (.slice (some ⟨gm', 0, none⟩) n' cm)) ∧ On l 1 (SlotNum w' yy1 r) ∧ On l 5 (SlotNumC w' yy5 r) ∧ On l 2 (BoxP w' pl pm yy2 r) ∧ On l 6 (BoxR w' pl pm yy6 r) ∧ On l 8 (v5 = yy3) ∧ On l 9 (v6 = yy7) ∧ Off l 8 (v5 = (.slice (some ⟨gl', 0, none⟩) n' cl)) ∧ Off l 9 (v6 = (.slice (some ⟨gm', 0, none⟩) n' cm)) ∧ On l 8 (on l 0 = true ∧ on l 3 = true) ∧ On l 9 (on l 4 = true ∧ on l 7 = true) ∧ On l 3 (on l 0 = true) ∧ On l 7 (on l 4 = true) ∧ l.size = 10) ?_ ?_ _ _ _ _ (by decide) ?_
          · intro l a' W' i hi hI
            obtain ⟨v5, v6, yy0, yy1, yy2, yy3, yy4, yy5, yy6, yy7, pl, dl, nl, pm, dm, nm, rfl, HS, z3, o3, z7, o7, o0, o4, o1, o5, o2, o6, o8, o9, z8, z9, y8, y9, y3, y7, hz⟩ := hI
            obtain ⟨hlt, hoff, hpre⟩ := ready_pre hi
            have hc : i ∈ [0, 1, 2, 3, 4, 5, 6, 7, 8, 9] := (by decide : ∀ i, i < 10 → i ∈ [0, 1, 2, 3, 4, 5, 6, 7, 8, 9]) i hlt
            simp only [List.mem_cons, List.not_mem_nil, or_false] at hc
            clear hi hlt
            rcases hc with rfl | rfl | rfl | rfl | rfl | rfl | rfl | rfl | rfl | rfl
            · have hp := hpre _ rfl
              simp [Region.binds] at hp
              clear hpre
              have e0 := z8.get (fun h => off hoff (y8.get h).1); subst e0
              refine wpOp_go rfl rfl (fun K hK => ?_)
              go_simp
              refine hK _ _ ?_
              clear hK K
              exact ⟨_, _, _, _, _, _, _, _, _, _, _, _, _, _, _, _, rfl, HS, z3.keep, o3.keep (j := 0) (by decide), z7.keep, o7.keep (j := 0) (by decide), On.new rfl, o4.keep (j := 0) (by decide), o1.keep (j := 0) (by decide), o5.keep (j := 0) (by decide), o2.keep (j := 0) (by decide), o6.keep (j := 0) (by decide), o8.keep (j := 0) (by decide), o9.keep (j := 0) (by decide), z8.keep, z9.keep, (y8.keep (j := 0) (by decide)).map (fun h => ⟨on_mono h.1, on_mono h.2⟩), (y9.keep (j := 0) (by decide)).map (fun h => ⟨on_mono h.1, on_mono h.2⟩), (y3.keep (j := 0) (by decide)).map on_mono, (y7.keep (j := 0) (by decide)).map on_mono, by simp [hz]⟩
            · have hp := hpre _ rfl
              simp [Region.binds] at hp
              clear hpre
              obtain ⟨A1, A2, A3, ⟨c0, c1, c2, c3, c4⟩, n1⟩ := HS.2.2.2.2.2.1.slot
              refine wpOp_go rfl rfl (fun K hK => ?_)
              go_simp
              refine hK _ _ ?_
              clear hK K
              exact ⟨_, _, _, _, _, _, _, _, _, _, _, _, _, _, _, _, rfl, HS, z3.keep, o3.keep (j := 1) (by decide), z7.keep, o7.keep (j := 1) (by decide), o0.keep (j := 1) (by decide), o4.keep (j := 1) (by decide), On.new ⟨A1, A2, A3, rfl, n1⟩, o5.keep (j := 1) (by decide), o2.keep (j := 1) (by decide), o6.keep (j := 1) (by decide), o8.keep (j := 1) (by decide), o9.keep (j := 1) (by decide), z8.keep, z9.keep, (y8.keep (j := 1) (by decide)).map (fun h => ⟨on_mono h.1, on_mono h.2⟩), (y9.keep (j := 1) (by decide)).map (fun h => ⟨on_mono h.1, on_mono h.2⟩), (y3.keep (j := 1) (by decide)).map on_mono, (y7.keep (j := 1) (by decide)).map on_mono, by simp [hz]⟩
            · have hp := hpre _ rfl
              simp [Region.binds] at hp
              clear hpre
              obtain ⟨A1, A2, A3, e0, n1⟩ := o1.get (by simp [hp])
              subst e0
              refine wpOp_go rfl rfl (fun K hK => ?_)
              go_simp
              refine hK _ _ ?_
              clear hK K
              exact ⟨_, _, _, _, _, _, _, _, _, _, _, _, _, _, _, _, rfl, HS.to ((Below.refl _ _).alloc (Nat.le_refl _) _), z3.keep, o3.keep (j := 2) (by decide), z7.keep, o7.keep (j := 2) (by decide), o0.keep (j := 2) (by decide), o4.keep (j := 2) (by decide), (o1.keep (j := 2) (by decide)).map (fun h => h.to ((Below.refl _ _).alloc (Nat.le_refl _) _)), (o5.keep (j := 2) (by decide)).map (fun h => h.to ((Below.refl _ _).alloc (Nat.le_refl _) _)), On.new (HS.boxP n1), (o6.keep (j := 2) (by decide)).map (fun h => h.to ((Below.refl _ _).alloc (Nat.le_refl _) _)), o8.keep (j := 2) (by decide), o9.keep (j := 2) (by decide), z8.keep, z9.keep, (y8.keep (j := 2) (by decide)).map (fun h => ⟨on_mono h.1, on_mono h.2⟩), (y9.keep (j := 2) (by decide)).map (fun h => ⟨on_mono h.1, on_mono h.2⟩), (y3.keep (j := 2) (by decide)).map on_mono, (y7.keep (j := 2) (by decide)).map on_mono, by simp [hz]⟩
            · have hp := hpre _ rfl
              simp [Region.binds] at hp
              clear hpre
              obtain ⟨e1, e2, e3⟩ := z3.get (off hoff)
              subst e1 e2 e3
              have e0 := o0.get (by simp [hp]); subst e0
              obtain ⟨g2, dd, w2, c, er, HS2, hg, k, hh⟩ := HS.pushP (o2.get (by simp [hp])) hF2 (by omega)
              refine wpOp_go rfl rfl (fun K hK => ?_)
              refine wp_append_run rfl rfl rfl er ?_
              go_simp
              refine hK _ _ ?_
              clear hK K
              exact ⟨_, _, _, _, _, _, _, _, _, _, _, _, _, _, _, _, rfl, HS2, Off.done (by omega), On.new ⟨rfl, rfl⟩, z7.keep, o7.keep (j := 3) (by decide), o0.keep (j := 3) (by decide), o4.keep (j := 3) (by decide), (o1.keep (j := 3) (by decide)).map (fun h => h.growB hg k), (o5.keep (j := 3) (by decide)).map (fun h => h.growB hg k), (o2.keep (j := 3) (by decide)).map (fun h => h.growL hg k hh), (o6.keep (j := 3) (by decide)).map (fun h => h.growL hg k hh), fun h => absurd (y8.get (on_ne h (by decide))).2 (off hoff), o9.keep (j := 3) (by decide), z8.keep, z9.keep, (y8.keep (j := 3) (by decide)).map (fun h => ⟨on_mono h.1, on_mono h.2⟩), (y9.keep (j := 3) (by decide)).map (fun h => ⟨on_mono h.1, on_mono h.2⟩), On.new (on_mono (by simp [hp])), (y7.keep (j := 3) (by decide)).map on_mono, by simp [hz]⟩
            · have hp := hpre _ rfl
              simp [Region.binds] at hp
              clear hpre
              have e0 := z9.get (fun h => off hoff (y9.get h).1); subst e0
              refine wpOp_go rfl rfl (fun K hK => ?_)
              go_simp
              refine hK _ _ ?_
              clear hK K
              exact ⟨_, _, _, _, _, _, _, _, _, _, _, _, _, _, _, _, rfl, HS, z3.keep, o3.keep (j := 4) (by decide), z7.keep, o7.keep (j := 4) (by decide), o0.keep (j := 4) (by decide), On.new rfl, o1.keep (j := 4) (by decide), o5.keep (j := 4) (by decide), o2.keep (j := 4) (by decide), o6.keep (j := 4) (by decide), o8.keep (j := 4) (by decide), o9.keep (j := 4) (by decide), z8.keep, z9.keep, (y8.keep (j := 4) (by decide)).map (fun h => ⟨on_mono h.1, on_mono h.2⟩), (y9.keep (j := 4) (by decide)).map (fun h => ⟨on_mono h.1, on_mono h.2⟩), (y3.keep (j := 4) (by decide)).map on_mono, (y7.keep (j := 4) (by decide)).map on_mono, by simp [hz]⟩
            · have hp := hpre _ rfl
              simp [Region.binds] at hp
              clear hpre
              obtain ⟨A1, A2, A3, k1, k2, k3, ⟨c0, c1, c2, c3, c4⟩, n1⟩ := HS.2.2.2.2.2.2.1.slot
              refine wpOp_go rfl rfl (fun K hK => ?_)
              go_simp
              refine hK _ _ ?_
              clear hK K
              exact ⟨_, _, _, _, _, _, _, _, _, _, _, _, _, _, _, _, rfl, HS, z3.keep, o3.keep (j := 5) (by decide), z7.keep, o7.keep (j := 5) (by decide), o0.keep (j := 5) (by decide), o4.keep (j := 5) (by decide), o1.keep (j := 5) (by decide), On.new ⟨A1, A2, A3, k1, k2, k3, rfl, n1⟩, o2.keep (j := 5) (by decide), o6.keep (j := 5) (by decide), o8.keep (j := 5) (by decide), o9.keep (j := 5) (by decide), z8.keep, z9.keep, (y8.keep (j := 5) (by decide)).map (fun h => ⟨on_mono h.1, on_mono h.2⟩), (y9.keep (j := 5) (by decide)).map (fun h => ⟨on_mono h.1, on_mono h.2⟩), (y3.keep (j := 5) (by decide)).map on_mono, (y7.keep (j := 5) (by decide)).map on_mono, by simp [hz]⟩
            · have hp := hpre _ rfl
              simp [Region.binds] at hp
              clear hpre
              obtain ⟨A1, A2, A3, k1, k2, k3, e0, n1⟩ := o5.get (by simp [hp])
              subst e0
              refine wpOp_go rfl rfl (fun K hK => ?_)
              go_simp
              refine hK _ _ ?_
              clear hK K
              exact ⟨_, _, _, _, _, _, _, _, _, _, _, _, _, _, _, _, rfl, HS.to ((Below.refl _ _).alloc (Nat.le_refl _) _), z3.keep, o3.keep (j := 6) (by decide), z7.keep, o7.keep (j := 6) (by decide), o0.keep (j := 6) (by decide), o4.keep (j := 6) (by decide), (o1.keep (j := 6) (by decide)).map (fun h => h.to ((Below.refl _ _).alloc (Nat.le_refl _) _)), (o5.keep (j := 6) (by decide)).map (fun h => h.to ((Below.refl _ _).alloc (Nat.le_refl _) _)), (o2.keep (j := 6) (by decide)).map (fun h => h.to ((Below.refl _ _).alloc (Nat.le_refl _) _)), On.new (HS.boxR n1), o8.keep (j := 6) (by decide), o9.keep (j := 6) (by decide), z8.keep, z9.keep, (y8.keep (j := 6) (by decide)).map (fun h => ⟨on_mono h.1, on_mono h.2⟩), (y9.keep (j := 6) (by decide)).map (fun h => ⟨on_mono h.1, on_mono h.2⟩), (y3.keep (j := 6) (by decide)).map on_mono, (y7.keep (j := 6) (by decide)).map on_mono, by simp [hz]⟩
            · have hp := hpre _ rfl
              simp [Region.binds] at hp
              clear hpre
              obtain ⟨e1, e2, e3⟩ := z7.get (off hoff)
              subst e1 e2 e3
              have e0 := o4.get (by simp [hp]); subst e0
              obtain ⟨g2, dd, w2, c, er, HS2, hg, k, hh⟩ := HS.pushR (o6.get (by simp [hp])) hF2 (by omega)
              refine wpOp_go rfl rfl (fun K hK => ?_)
              refine wp_append_run rfl rfl rfl er ?_
              go_simp
              refine hK _ _ ?_
              clear hK K
              exact ⟨_, _, _, _, _, _, _, _, _, _, _, _, _, _, _, _, rfl, HS2, z3.keep, o3.keep (j := 7) (by decide), Off.done (by omega), On.new ⟨rfl, rfl⟩, o0.keep (j := 7) (by decide), o4.keep (j := 7) (by decide), (o1.keep (j := 7) (by decide)).map (fun h => h.growB hg k), (o5.keep (j := 7) (by decide)).map (fun h => h.growB hg k), (o2.keep (j := 7) (by decide)).map (fun h => h.growM hg k hh), (o6.keep (j := 7) (by decide)).map (fun h => h.growM hg k hh), o8.keep (j := 7) (by decide), fun h => absurd (y9.get (on_ne h (by decide))).2 (off hoff), z8.keep, z9.keep, (y8.keep (j := 7) (by decide)).map (fun h => ⟨on_mono h.1, on_mono h.2⟩), (y9.keep (j := 7) (by decide)).map (fun h => ⟨on_mono h.1, on_mono h.2⟩), (y3.keep (j := 7) (by decide)).map on_mono, On.new (on_mono (by simp [hp])), by simp [hz]⟩
            · have hp := hpre _ rfl
              simp [Region.binds] at hp
              clear hpre
              refine wpOp_go rfl rfl (fun K hK => ?_)
              go_simp
              refine hK _ _ ?_
              clear hK K
              exact ⟨_, _, _, _, _, _, _, _, _, _, _, _, _, _, _, _, rfl, HS, z3.keep, o3.keep (j := 8) (by decide), z7.keep, o7.keep (j := 8) (by decide), o0.keep (j := 8) (by decide), o4.keep (j := 8) (by decide), o1.keep (j := 8) (by decide), o5.keep (j := 8) (by decide), o2.keep (j := 8) (by decide), o6.keep (j := 8) (by decide), On.new rfl, o9.keep (j := 8) (by decide), Off.done (by omega), z9.keep, On.new ⟨on_mono (y3.get (by simp [hp])), on_mono (by simp [hp])⟩, (y9.keep (j := 8) (by decide)).map (fun h => ⟨on_mono h.1, on_mono h.2⟩), (y3.keep (j := 8) (by decide)).map on_mono, (y7.keep (j := 8) (by decide)).map on_mono, by simp [hz]⟩
            · have hp := hpre _ rfl
              simp [Region.binds] at hp
              clear hpre
              refine wpOp_go rfl rfl (fun K hK => ?_)
              go_simp
              refine hK _ _ ?_
              clear hK K
              exact ⟨_, _, _, _, _, _, _, _, _, _, _, _, _, _, _, _, rfl, HS, z3.keep, o3.keep (j := 9) (by decide), z7.keep, o7.keep (j := 9) (by decide), o0.keep (j := 9) (by decide), o4.keep (j := 9) (by decide), o1.keep (j := 9) (by decide), o5.keep (j := 9) (by decide), o2.keep (j := 9) (by decide), o6.keep (j := 9) (by decide), o8.keep (j := 9) (by decide), On.new rfl, z8.keep, Off.done (by omega), (y8.keep (j := 9) (by decide)).map (fun h => ⟨on_mono h.1, on_mono h.2⟩), On.new ⟨on_mono (y7.get (by simp [hp])), on_mono (by simp [hp])⟩, (y3.keep (j := 9) (by decide)).map on_mono, (y7.keep (j := 9) (by decide)).map on_mono, by simp [hz]⟩
          · intro l a' W' hr hI
            obtain ⟨v5, v6, yy0, yy1, yy2, yy3, yy4, yy5, yy6, yy7, pl, dl, nl, pm, dm, nm, rfl, HS, z3, o3, z7, o7, o0, o4, o1, o5, o2, o6, o8, o9, z8, z9, y8, y9, y3, y7, hz⟩ := hI
            have a0 := not_ready (i := 0) hr hz rfl (by simp [Region.binds])
            have a1 := not_ready (i := 1) hr hz rfl (by simp [Region.binds, a0])
            have a2 := not_ready (i := 2) hr hz rfl (by simp [Region.binds, a0, a1])
            have a3 := not_ready (i := 3) hr hz rfl (by simp [Region.binds, a0, a1, a2])
            have a4 := not_ready (i := 4) hr hz rfl (by simp [Region.binds, a0, a1, a2, a3])
            have a5 := not_ready (i := 5) hr hz rfl (by simp [Region.binds, a0, a1, a2, a3, a4])
            have a6 := not_ready (i := 6) hr hz rfl (by simp [Region.binds, a0, a1, a2, a3, a4, a5])
            have a7 := not_ready (i := 7) hr hz rfl (by simp [Region.binds, a0, a1, a2, a3, a4, a5, a6])
            have a8 := not_ready (i := 8) hr hz rfl (by simp [Region.binds, a0, a1, a2, a3, a4, a5, a6, a7])
            have a9 := not_ready (i := 9) hr hz rfl (by simp [Region.binds, a0, a1, a2, a3, a4, a5, a6, a7, a8])
            clear hr
            obtain ⟨e3, n3⟩ := o3.get a3
            obtain ⟨e7, n7⟩ := o7.get a7
            have e8 := o8.get a8
            have e9 := o9.get a9
            subst e8 e9
            subst e3 e7 n3 n7
            clear z3 o3 z7 o7 o0 o4 o1 o5 o2 o6 o8 o9 z8 z9 y8 y9 y3 y7 hz a0 a1 a2 a3 a4 a5 a6 a7 a8 a9 HS0
            go_wp2_with fail
            go_roundw
            case rel =>
              obtain ⟨s1, s2, s3, s4, s5, _, _, _, s9, _, _⟩ := HS
              refine ⟨k + 1, n' + 1, F, pl, dl, pm, dm, by omega, by omega, by omega, by go_num, rfl, rfl, ⟨s1, s2, fun i hi => ⟨s3 i hi, s4 i hi⟩, s5⟩, fun i hi => ?_, s9⟩
              by_cases e : i = n'
              · subst e; rw [hF2]; exact zr2
              · rw [hF1 i (by omega)]; exact HZ.out i (by omega)
            case measure => simp [intOf]; omega
          · exact ⟨_, _, _, _, _, _, _, _, _, _, _, _, _, _, _, _, rfl, HS0.to ((Below.refl _ _).drew), Off.new ⟨rfl, rfl, rfl⟩, fun h => absurd h (by decide), Off.new ⟨rfl, rfl, rfl⟩, fun h => absurd h (by decide), fun h => absurd h (by decide), fun h => absurd h (by decide), fun h => absurd h (by decide), fun h => absurd h (by decide), fun h => absurd h (by decide), fun h => absurd h (by decide), fun h => absurd h (by decide), fun h => absurd h (by decide), Off.new rfl, Off.new rfl, fun h => absurd h (by decide), fun h => absurd h (by decide), fun h => absurd h (by decide), fun h => absurd h (by decide), by simp⟩
        · have t3 : decide ((3000 : Int) < (s.size : Int)) = true := by rw [decide_eq_true_eq]; omega
          clear h3
          have HE := Lib.hid (HBB.out.trans (hB.mono HBB.out.size))
          clear v9 v10 v11 v12 hB
          go_wp2_with fail
          refine (awake_any _).mono ?_
          rintro e w2 ⟨rfl, hb⟩
          go_wp2_with fail
          go_ret
          exact ⟨rfl, HE.out.trans (hb.mono HE.out.size)⟩
      · exact ⟨fun j => List.getD [u150, u151, u152, u153, u154, u155, u156, u157, u158, u159, u160, u161, u162, u163, u164, u165, u166, u167, u168, u169, u170, u171, u172, u173, u174, u175, u176, u177, u178, u179, u180, u181, u182, u183, u184, u185, u186, u187, u188, u189, u190, u191, u192, u193, u194, u195, u196, u197, u198] j undef, OnAll.start, rfl, HR0.to ((Below.refl _ _).drew), by simp⟩
    · obtain rfl : k = m := by omega
      go_wp2_with fail
      refine (awake_any _).mono ?_
      rintro e w2 ⟨rfl, hb⟩
      go_wp2_with fail
      go_ret
      exact ⟨rfl, hB.trans (hb.mono hB.size)⟩
end Go.Proofs.YtgpmlhpgdalheaaGreat

namespace Go.Proofs.YtgpmlhpgdalheaaGreat
open Go.ChangeShapes Go.WideShapes Go.ChangeAt Go.RowKit Go.Joins Go.Deep Pl
set_option linter.unusedVariables false
theorem wf_u8 {z : Int} (h : (Lit.int .u8 z).wf = true) : 0 ≤ z ∧ z < 256 := by have := bounds_u8 h; omega
theorem wf_u16 {z : Int} (h : (Lit.int .u16 z).wf = true) : 0 ≤ z ∧ z < 65536 := by have := bounds_u16 h; omega
section
variable {H : Type} {enc : TypeId × Value → H} {P : Program}
/-- A slice of structs of a byte and two uint16s, opened. -/
theorem open_ops {W : World} {t e q r : TypeId} {f0 f1 f2 : Field} {v : Value} {d : DataW H} {ps : List MemPlace} (ht : P.underlying t = some (.slice e)) (he : P.underlying e = some (.struct #[f0, f1, f2])) (ce : P.cellsOf e = 3)
    (o0 : f0.offset = 0 ∧ f0.type = q) (o1 : f1.offset = 1 ∧ f1.type = r) (o2 : f2.offset = 2 ∧ f2.type = r) (hq : P.underlying q = some (.int .u8)) (cq : P.cellsOf q = 1) (hr : P.underlying r = some (.int .u16)) (cr : P.cellsOf r = 1)
    (hv : v.cells = #[v]) (h : DataW.Trod enc P W 0 (fun _ => true) true t v d ps) :
    ∃ (A : Option Addr) (len cap : Nat) (X Y Z : Nat → Int), v = .slice A len cap ∧ len ≤ cap ∧ cap ≤ maxLen ∧ OpsAt W A len X Y Z := by
  obtain ⟨fuel, hf⟩ := h
  rw [hv] at hf
  rcases open_slice ht hf with ⟨hcs, _⟩ | ⟨a, len, cap, m, n, D, Pl, hcs, hb, hl, hm, hmm, hx, hel⟩
  · simp only [List.cons.injEq, and_true] at hcs
    exact ⟨none, 0, 0, fun _ => 0, fun _ => 0, fun _ => 0, hcs, Nat.le_refl _, by unfold maxLen; omega, fun i hi => absurd hi (by omega)⟩
  · simp only [List.cons.injEq, and_true] at hcs
    have hm' : m = cap := hmm
    have each : ∀ i, i < len → ∃ z : Int × Int × Int, a.spot = none ∧ W.cell? ⟨a.block, a.off + i * 3, none⟩ = some (.int .u8 z.1) ∧ W.cell? ⟨a.block, a.off + i * 3 + 1, none⟩ = some (.int .u16 z.2.1) ∧ W.cell? ⟨a.block, a.off + i * 3 + 2, none⟩ = some (.int .u16 z.2.2) ∧
        (Lit.int .u8 z.1).wf = true ∧ (Lit.int .u16 z.2.1).wf = true ∧ (Lit.int .u16 z.2.2).wf = true := by
      intro i hi
      obtain ⟨c0', h01, h02⟩ := hel 0 (by omega)
      obtain ⟨_, l0, hc0⟩ := World.cells?_some h01
      have hsp : a.spot = none := by
        rw [ce] at l0 hc0
        have e0 := hc0 0 (by omega)
        have ez : ((a.add (0 * 3)).add 0) = a := by simp [Addr.add]
        rw [ez] at e0
        cases hs : a.spot with
        | none => rfl
        | some x =>
          have hlen : 0 < c0'.length := by omega
          rw [List.getElem?_eq_getElem hlen] at e0
          simp only [World.cell?] at e0
          split at e0
          · simp [hs] at e0
          · cases e0
      obtain ⟨cs', h1, h2⟩ := hel i (by omega)
      rw [ce] at h1
      obtain ⟨_, hlen, hcell⟩ := World.cells?_some h1
      obtain ⟨xs, k, hk, hxy, _, hxl, hff⟩ := DataW.trod_struct he h2
      match xs, hxl, cs', hlen with
      | [y0, y1, y2], _, [v0, v1, v2], _ =>
        have g0 := hff 0 f0 rfl
        have g1 := hff 1 f1 rfl
        have g2 := hff 2 f2 rfl
        simp [o0.1, o0.2, o1.1, o1.2, o2.1, o2.2, cq, cr] at g0 g1 g2
        obtain ⟨z0, e0, _, w0⟩ := DataW.trod_int hq g0
        obtain ⟨z1, e1, _, w1⟩ := DataW.trod_int hr g1
        obtain ⟨z2, e2, _, w2⟩ := DataW.trod_int hr g2
        have k0 := hcell 0 (by omega)
        have k1 := hcell 1 (by omega)
        have k2 := hcell 2 (by omega)
        rw [add_add, add_none _ hsp] at k0 k1 k2
        simp at e0 e1 e2
        subst e0 e1 e2
        exact ⟨(z0, z1, z2), hsp, by simpa using k0, by simpa [Nat.add_assoc] using k1, by simpa [Nat.add_assoc] using k2, w0, w1, w2⟩
    obtain ⟨z, hz⟩ := choose_lt each
    refine ⟨some a, len, cap, fun i => (z i).1, fun i => (z i).2.1, fun i => (z i).2.2, hcs, hl, hm, fun i hi => ?_⟩
    obtain ⟨hsp, c0, c1, c2, w0, w1, w2⟩ := hz i hi
    have hlt : a.block < W.heap.size := by
      obtain ⟨c0', h01, _⟩ := hel 0 (by omega)
      have := World.cells?_block h01 (by rw [ce]; omega)
      simpa [Addr.add] using this
    exact ⟨a.block, a.off, by cases a; simp_all, hlt, c0, c1, c2, wf_u8 w0, wf_u16 w1, wf_u16 w2⟩
end
set_option maxRecDepth 100000 in
theorem script_short (w : World) (A O : Option Addr) (n c m d : Nat) (h : n = 0 ∨ 20 < n ∨ 30 < m) (hn : n ≤ maxLen) (hm : m ≤ maxLen) :
    Calls Tryz.prog 4 #[.slice A n c, .slice O m d] w (RetBool w true) := by
  by_cases c0 : n = 0
  · have t1 : ((n : Int) == 0) = true := by simpa using c0
    clear h hn hm
    go_enter Tryz.func4, Tryz.ntmps4
    go_wp2_with fail
    refine (awake_any _).mono ?_
    rintro e w2 ⟨rfl, hb⟩
    go_wp2_with fail
    go_ret
    exact ⟨rfl, hb⟩
  · have t1 : ((n : Int) == 0) = false := by simpa using c0
    by_cases c1 : 20 < n
    · have t2 : decide ((20 : Int) < n) = true := by rw [decide_eq_true_eq]; omega
      clear h hn hm
      go_enter Tryz.func4, Tryz.ntmps4
      go_wp2_with fail
      refine (awake_any _).mono ?_
      rintro e w2 ⟨rfl, hb⟩
      go_wp2_with fail
      go_ret
      exact ⟨rfl, hb⟩
    · have t2 : decide ((20 : Int) < n) = false := by rw [decide_eq_false_iff_not]; omega
      have t3 : decide ((30 : Int) < m) = true := by rw [decide_eq_true_eq]; omega
      clear h hn hm
      go_enter Tryz.func4, Tryz.ntmps4
      go_wp2_with fail
      refine (awake_any _).mono ?_
      rintro e w2 ⟨rfl, hb⟩
      go_wp2_with fail
      go_ret
      exact ⟨rfl, hb⟩
theorem script_all (w : World) (A O : Option Addr) (n c m d : Nat) (X Y Z K U V : Nat → Int) (hT : Triples w A n X Y Z) (hO : OpsAt w O m K U V) (hn : n ≤ maxLen) (hm : m ≤ maxLen) :
    Calls Tryz.prog 4 #[.slice A n c, .slice O m d] w fun e w' => e = .returned (.bool true) ∧ Below w.heap.size w w' := by
  by_cases h : n = 0 ∨ 20 < n ∨ 30 < m
  · exact script_short w A O n c m d h hn hm
  · exact script_walk w A O n c m d X Y Z K U V hT hO (by omega) (by omega) (by omega)
theorem numScript_own : ownKnob Tryz.prog.godebug = none := by kernel_rfl
theorem numScript_kids : Kids Tryz.prog (· < Tryz.prog.types.size) := kids_rows (by kernel_rfl) (by kernel_rfl)
theorem numScript_rows : ((List.range Tryz.prog.types.size).all fun t => match Tryz.prog.underlying t with | some (.slice e) => decide (0 < Tryz.prog.cellsOf e) | _ => true) = true := by kernel_rfl
theorem numScript_full : ∀ t e, t < Tryz.prog.types.size → Tryz.prog.underlying t = some (.slice e) → 0 < Tryz.prog.cellsOf e := by
  intro t e ht hu
  have h := List.all_eq_true.1 numScript_rows t (List.mem_range.2 ht)
  simp only [hu] at h
  simpa using h
theorem numScript_parB : (Tryz.f4.params.toList.all fun t => decide (t < Tryz.prog.types.size)) = true := by kernel_rfl
theorem numScript_par : ∀ t ∈ Tryz.f4.params.toList, t < Tryz.prog.types.size := by
  intro t ht
  simpa using List.all_eq_true.1 numScript_parB t ht
set_option maxRecDepth 100000 in
theorem numScript_lifted (os : Os) (started : os.Started) (H : Type) (enc : TypeId × Value → H) :
    ReturnsInHanded {} Tryz.checked os 4 .any (Rows.numScriptSpec.pre6 enc Tryz.prog Tryz.f4 Rows.numScriptRow.domain false) (Rows.numScriptSpec.post enc Tryz.prog Tryz.f4 false true false false) := by
  refine returnsInHanded_of_change (C := Tryz.checked) numScript_own started (by kernel_rfl) Tryz.func4
    (ChangeSpec.witness6 (enc := enc) (C := Tryz.checked) false ⟨#[], #[.slice none 0 0, .slice none 0 0], []⟩ 8 (by kernel_rfl) (by kernel_rfl) (by kernel_rfl) (by kernel_rfl)) ?_
  intro W base args ds gs before hval0 hW hcnd _
  have hval : ∀ (j : Nat) t v, Tryz.f4.params[j]? = some t → args[j]? = some v → Value.okWide Tryz.prog W .any base t v := hval0
  have hW' := hW
  obtain ⟨p, q, hA0, hV, rfl, hfz, hnd⟩ := hW
  have hA : DataW.TrodAll enc Tryz.prog W 0 (fun _ => true) true Tryz.f4.params.toList args.toList ds p := hA0
  rw [Tryz.params4] at hA hval
  obtain ⟨v0, vs0, d0, ds0, p0, q0, hargs, rfl, rfl, h0, r0⟩ := trodAll_cons hA
  obtain ⟨v1, vs1, d1, ds1, p1, q1, rfl, rfl, rfl, h1, r1⟩ := trodAll_cons r0
  obtain ⟨rfl, rfl, rfl⟩ := trodAll_nil r1
  obtain rfl : args = #[v0, v1] := by cases args; simp_all
  obtain ⟨rfl, rfl⟩ := trodVars_none hV
  have k0 : v0.cells = #[v0] := by obtain ⟨_, _, _, rfl⟩ := okWide_slice Tryz.underlying52 (hval 0 52 v0 rfl rfl); rfl
  have k1 : v1.cells = #[v1] := by obtain ⟨_, _, _, rfl⟩ := okWide_slice Tryz.underlying53 (hval 1 53 v1 rfl rfl); rfl
  obtain ⟨A, n, c, X, Y, Z, rfl, hc0, hc1, hT⟩ := open_triples Tryz.underlying52 Tryz.underlying23 (by kernel_rfl) ⟨rfl, rfl⟩ ⟨rfl, rfl⟩ ⟨rfl, rfl⟩ Tryz.underlying2 (by kernel_rfl) k0 h0
  obtain ⟨O, m, d, K, U, V, rfl, hd0, hd1, hO⟩ := open_ops Tryz.underlying53 Tryz.underlying60 (by kernel_rfl) ⟨rfl, rfl⟩ ⟨rfl, rfl⟩ ⟨rfl, rfl⟩ Tryz.underlying5 (by kernel_rfl) Tryz.underlying58 (by kernel_rfl) k1 h1
  refine (script_all W A O n c m d X Y Z K U V hT hO (Nat.le_trans hc0 hc1) (Nat.le_trans hd0 hd1)).mono fun e W' ⟨he, hg⟩ => ?_
  subst he
  simp only [List.append_nil] at hW' hA0
  exact ⟨_, rfl, read_post numScript_kids numScript_full numScript_par hW' hA0 (fun _ _ _ => trodAll_cons_mk (shut_bool Tryz.underlying4 _) trodAll_mk0) rfl (fun _ => rfl) hg⟩
theorem numScript_over : Rows.numScriptRow.holds Tryz.pinned (OpenSpec.ofChange Rows.numScriptSpec) :=
  OpenClaim.holds_of_wide 4 Tryz.f4 rfl rfl rfl rfl rfl rfl rfl ⟨rfl, rfl, rfl, rfl, rfl⟩ rfl rfl rfl rfl rfl (by kernel_rfl) Tryz.func4 (by kernel_rfl)
    (of_decide_eq_true (by kernel_rfl)) (by unfold Func.isWrapper; first | (rw [if_pos (by decide +kernel)]; kernel_rfl) | (rw [if_neg (by decide +kernel)]; exact ⟨rfl, rfl⟩))
    (fun os started H enc _ => numScript_lifted os started H enc)
/-- THE STATEMENT. -/
theorem numScript_holds : Rows.NumScriptSaid := numScript_over
#print axioms numScript_holds
end Go.Proofs.YtgpmlhpgdalheaaGreat
