/- Part 7 of the proof. -/
import Derived.Test.YtdpjknjlhchmcaaGreatNP4
import Derived.Test.YtdpjknjlhchmcaaGreatNP5
import Derived.Deep.LoopGhost
import Derived.Test.YtdpjknjlhchmcaaGreatNP2
import Derived.Maps.AppendAt
import Derived.Test.YtdpjknjlhchmcaaGreatNP6
namespace Go.Proofs.YtdpjknjlhchmcaaGreat
open Go.RowKit Pl
set_option linter.unusedVariables false
set_option linter.unusedSimpArgs false
theorem Tryz.info_q : (Tryz.prog.info? 66).map (fun i => (i.zero, i.size, i.bytes)) = some (some (.agg #[.bool false, .slice none 0 0, .bool false, .slice none 0 0, .slice none 0 0]), 5, 88) := by kernel_rfl
theorem Tryz.und_qs : Tryz.prog.underlying 33 = some (.slice 66) := by kernel_rfl
/-- A number of the reference lies at the offset o of the block g. -/
def QE (w : World) (g o : Nat) (q : Cx) : Prop := ∃ A1 A2 A3 k1 k2 k3, (w.cell? ⟨g, o, none⟩ = some (.bool (sn (na q))) ∧ w.cell? ⟨g, o + 1, none⟩ = some (.slice A1 (ln (ab (na q))) k1) ∧ w.cell? ⟨g, o + 2, none⟩ = some (.bool (sn (nb q))) ∧ w.cell? ⟨g, o + 3, none⟩ = some (.slice A2 (ln (ab (nb q))) k2) ∧ w.cell? ⟨g, o + 4, none⟩ = some (.slice A3 (ln (nd q)) k3)) ∧ Num3C w A1 A2 A3 q
theorem QE.lt {w : World} {g o : Nat} {q : Cx} (h : QE w g o q) : g < w.heap.size := by
  obtain ⟨_, _, _, _, _, _, ⟨c0, _⟩, _⟩ := h
  exact World.block_lt_of_cell? w ⟨g, o, none⟩ c0
theorem QE.to {w w' : World} {g o : Nat} {q : Cx} (h : QE w g o q) (hb : Below w.heap.size w w') : QE w' g o q := by
  have l := h.lt
  obtain ⟨A1, A2, A3, k1, k2, k3, ⟨c0, c1, c2, c3, c4⟩, n⟩ := h
  exact ⟨A1, A2, A3, k1, k2, k3, ⟨keepc hb c0 l, keepc hb c1 l, keepc hb c2 l, keepc hb c3 l, keepc hb c4 l⟩, n.to hb⟩
/-- A number is stored at the offset o of the block p. -/
def set5q (w : World) (p o : Nat) (q : Cx) (A1 A2 A3 : Option Addr) (k1 k2 k3 : Nat) : World :=
  ((((w.setCell ⟨p, o, none⟩ (.bool (sn (na q)))).setCell ⟨p, o + 1, none⟩ (.slice A1 (ln (ab (na q))) k1)).setCell ⟨p, o + 2, none⟩ (.bool (sn (nb q)))).setCell ⟨p, o + 3, none⟩ (.slice A2 (ln (ab (nb q))) k2)).setCell ⟨p, o + 4, none⟩ (.slice A3 (ln (nd q)) k3)
theorem set5q_size (w : World) (p o : Nat) (q : Cx) (A1 A2 A3 : Option Addr) (k1 k2 k3 : Nat) : (set5q w p o q A1 A2 A3 k1 k2 k3).heap.size = w.heap.size := by simp [set5q, World.setCell]
theorem set5q_cell {w : World} {p o b i : Nat} {q : Cx} {A1 A2 A3 : Option Addr} {k1 k2 k3 : Nat} {v : Value} (h : w.cell? ⟨b, i, none⟩ = some v) (h1 : b ≠ p ∨ i < o ∨ o + 5 ≤ i) : (set5q w p o q A1 A2 A3 k1 k2 k3).cell? ⟨b, i, none⟩ = some v := keepo (keepo (keepo (keepo (keepo h (by omega)) (by omega)) (by omega)) (by omega)) (by omega)
theorem set5q_below {w W : World} {B p o : Nat} {q : Cx} {A1 A2 A3 : Option Addr} {k1 k2 k3 : Nat} (h : Below B w W) (hp : B ≤ p) : Below B w (set5q W p o q A1 A2 A3 k1 k2 k3) :=
  ((((h.setCell (by exact hp) _).setCell (by exact hp) _).setCell (by exact hp) _).setCell (by exact hp) _).setCell (by exact hp) _
theorem set5q_nat {w : World} {p o n : Nat} {q : Cx} {A1 A2 A3 A : Option Addr} {k1 k2 k3 : Nat} {c : Bool} (h : Nat32 w A n) (u : w.cell? ⟨p, 0, none⟩ = some (.bool c)) : Nat32 (set5q w p o q A1 A2 A3 k1 k2 k3) A n := by
  obtain ⟨e1, a1⟩ := bool_set (o := o) (v := .bool (sn (na q))) u (.inr rfl)
  obtain ⟨e2, a2⟩ := bool_set (d := false) (o := o + 1) (v := .slice A1 (ln (ab (na q))) k1) a1 (.inl (by omega))
  obtain ⟨e3, a3⟩ := bool_set (d := false) (o := o + 2) (v := .bool (sn (Pl.nb q))) a2 (.inl (by omega))
  obtain ⟨e4, a4⟩ := bool_set (d := false) (o := o + 3) (v := .slice A2 (ln (ab (Pl.nb q))) k2) a3 (.inl (by omega))
  exact nat_set (nat_set (nat_set (nat_set (nat_set h u) a1) a2) a3) a4
theorem set5q_bool {w : World} {p o : Nat} {q : Cx} {A1 A2 A3 : Option Addr} {k1 k2 k3 : Nat} {c : Bool} (u : w.cell? ⟨p, 0, none⟩ = some (.bool c)) : ∃ e, (set5q w p o q A1 A2 A3 k1 k2 k3).cell? ⟨p, 0, none⟩ = some (.bool e) := by
  obtain ⟨e1, a1⟩ := bool_set (o := o) (v := .bool (sn (na q))) u (.inr rfl)
  obtain ⟨e2, a2⟩ := bool_set (d := false) (o := o + 1) (v := .slice A1 (ln (ab (na q))) k1) a1 (.inl (by omega))
  obtain ⟨e3, a3⟩ := bool_set (d := false) (o := o + 2) (v := .bool (sn (Pl.nb q))) a2 (.inl (by omega))
  obtain ⟨e4, a4⟩ := bool_set (d := false) (o := o + 3) (v := .slice A2 (ln (ab (Pl.nb q))) k2) a3 (.inl (by omega))
  exact bool_set (d := false) (o := o + 4) (v := .slice A3 (ln (nd q)) k3) a4 (.inl (by omega))
theorem set5q_num3 {w : World} {p o : Nat} {q r : Cx} {A1 A2 A3 B1 B2 B3 : Option Addr} {k1 k2 k3 : Nat} {c : Bool} (h : Num3C w B1 B2 B3 r) (u : w.cell? ⟨p, 0, none⟩ = some (.bool c)) : Num3C (set5q w p o q A1 A2 A3 k1 k2 k3) B1 B2 B3 r := ⟨set5q_nat h.1 u, set5q_nat h.2.1 u, set5q_nat h.2.2 u⟩
theorem QE.set5q {w : World} {g p o i : Nat} {q r : Cx} {A1 A2 A3 : Option Addr} {k1 k2 k3 : Nat} {c : Bool} (h : QE w g i r) (hn : g ≠ p ∨ i + 5 ≤ o ∨ o + 5 ≤ i) (k : w.cell? ⟨p, 0, none⟩ = some (.bool c)) : QE (set5q w p o q A1 A2 A3 k1 k2 k3) g i r := by
  obtain ⟨B1, B2, B3, l1, l2, l3, ⟨c0, c1, c2, c3, c4⟩, n⟩ := h
  exact ⟨B1, B2, B3, l1, l2, l3, ⟨set5q_cell c0 (by omega), set5q_cell c1 (by omega), set5q_cell c2 (by omega), set5q_cell c3 (by omega), set5q_cell c4 (by omega)⟩, set5q_num3 n k⟩
theorem qe_set {w : World} {p o m : Nat} {T : TypeId} {F : Nat → Value} {q : Cx} {A1 A2 A3 : Option Addr} {k1 k2 k3 : Nat} {c : Bool} (hr : w.rowIs p T m F) (ho : o + 5 ≤ m) (k : w.cell? ⟨p, 0, none⟩ = some (.bool c)) (n : Num3C w A1 A2 A3 q) : QE (set5q w p o q A1 A2 A3 k1 k2 k3) p o q := by
  refine ⟨A1, A2, A3, k1, k2, k3, ?_, set5q_num3 n k⟩
  have u0 := hr.cell (i := o) (by omega)
  have u1 := hr.cell (i := o + 1) (by omega)
  have u2 := hr.cell (i := o + 2) (by omega)
  have u3 := hr.cell (i := o + 3) (by omega)
  have u4 := hr.cell (i := o + 4) (by omega)
  unfold Proofs.YtdpjknjlhchmcaaGreat.set5q
  have o0 := cell_self (u := .bool (sn (na q))) u0
  refine ⟨?_, ?_, ?_, ?_, ?_⟩
  · exact keepo (keepo (keepo (keepo o0 (by omega)) (by omega)) (by omega)) (by omega)
  · exact keepo (keepo (keepo (cell_self (keepo u1 (by omega))) (by omega)) (by omega)) (by omega)
  · exact keepo (keepo (cell_self (keepo (keepo u2 (by omega)) (by omega))) (by omega)) (by omega)
  · exact keepo (cell_self (keepo (keepo (keepo u3 (by omega)) (by omega)) (by omega))) (by omega)
  · exact cell_self (keepo (keepo (keepo (keepo u4 (by omega)) (by omega)) (by omega)) (by omega))
theorem RowB.set5q {w : World} {g p o m : Nat} {T : TypeId} {q : Cx} {A1 A2 A3 : Option Addr} {k1 k2 k3 : Nat} (h : RowB w g T m) : RowB (set5q w p o q A1 A2 A3 k1 k2 k3) g T m := by
  obtain ⟨⟨F, h⟩, c, k⟩ := h
  by_cases e : g = p
  · subst e
    refine ⟨⟨_, ((((h.set _ _).set _ _).set _ _).set _ _).set _ _⟩, set5q_bool k⟩
  · refine ⟨⟨F, ((((h.setOther (a := ⟨p, o, none⟩) e _).setOther (a := ⟨p, o + 1, none⟩) e _).setOther (a := ⟨p, o + 2, none⟩) e _).setOther (a := ⟨p, o + 3, none⟩) e _).setOther (a := ⟨p, o + 4, none⟩) e _⟩, c, set5q_cell k (.inl e)⟩
theorem mk_qs (n : Nat) (hn : n ≤ 100000) (w : World) : (Instr.makeSlice 33 (.int .i64 (n : Int)) (.int .i64 (n : Int))).run Tryz.prog w = .ok (.slice (some ⟨w.heap.size, 0, none⟩) n n) (mkN w n 66) := by
  obtain ⟨i, hi, hz, hs, hb⟩ := info_parts Tryz.info_q
  have := run_make (P := Tryz.prog) w 33 _ i _ Tryz.und_qs hi hz .i64 .i64 n n (by omega) (by omega) (by rw [hb]; omega) (by omega)
  simpa [hs, mkN, Z5, Value.cells] using this
/-- What refList hands back: a new row of numbers. -/
def RetQL (w : World) (n : Nat) (f : Nat → Cx) (e : Ending) (w' : World) : Prop := ∃ g, e = .returned (.slice (some ⟨g, 0, none⟩) n n) ∧ w.heap.size ≤ g ∧ (0 < n → RowB w' g 66 (n * 5)) ∧ (∀ i, i < n → QE w' g (i * 5) (f i)) ∧ Below w.heap.size w w'
set_option maxHeartbeats 4000000 in
theorem reflist_any (w : World) (A : Option Addr) (n c : Nat) (X Y Z : Nat → Int) (hT : Triples w A n X Y Z) (hn : n ≤ 1000) :
    Calls Tryz.prog 14 #[.slice A n c] w (RetQL w n fun i => ofv (X i) (Y i) (Z i)) := by
  have hmk := mk_qs n (by omega)
  go_enter Tryz.func14, Tryz.ntmps14
  go_wp2_with fail
  clear hmk
  have hrow := mkN_row w n 66
  have hbel := mkN_below w n 66
  have hsz := mkN_size w n 66
  generalize mkN w n 66 = W0 at *
  go_loopw [11] (fun i wr => ∃ k : Nat, k ≤ n ∧ i = .int .i64 k ∧ w.heap.size < wr.heap.size ∧ (0 < n → RowB wr w.heap.size 66 (n * 5)) ∧ (∀ j, j < k → QE wr w.heap.size (j * 5) (ofv (X j) (Y j) (Z j))) ∧ Below w.heap.size w wr) (fun i _ => n - (intOf i).toNat)
  case atStart => exact ⟨0, Nat.zero_le _, rfl, by omega, hrow, fun j hj => absurd hj (by omega), hbel⟩
  case round =>
    obtain ⟨k, hk, rfl, hsz', hrow', hpe, hbel'⟩ := hrel
    clear hrow hbel hsz
    by_cases hlt : k < n
    · obtain ⟨b, off, rfl, hl, c0, c1, c2, rx, ry, rz⟩ := hT k hlt
      have d0 := (hbel'.cell (p := ⟨b, off + k * 3, none⟩) hl).trans c0
      have d1 := (hbel'.cell (p := ⟨b, off + k * 3 + 1, none⟩) hl).trans c1
      have d2 := (hbel'.cell (p := ⟨b, off + k * 3 + 2, none⟩) hl).trans c2
      clear c0 c1 c2
      have hb2 : b < wr.heap.size := by omega
      generalize hX : X k = x at *
      generalize hY : Y k = y at *
      generalize hZ : Z k = z at *
      clear hT
      go_wp2_with fail
      refine (rof_any x y z _ rx ry rz).mono ?_
      rintro e w1 ⟨A1, A2, A3, k1, k2, k3, rfl, n1, hb⟩
      replace hb := unalloc hb
      replace hrow' := (hrow' (by omega)).to hb
      replace hpe := fun j hj => (hpe j hj).to hb
      replace hbel' := hbel'.trans (hb.mono hbel'.size)
      replace hsz' := Nat.lt_of_lt_of_le hsz' hb.size
      clear hb d0 d1 d2 hb2 hl
      have hrow2 := hrow'
      obtain ⟨⟨F, hF⟩, c1, hc1⟩ := hrow'
      have u0 := hF.cell (i := k * 5) (by omega)
      have u1 := hF.cell (i := k * 5 + 1) (by omega)
      have u2 := hF.cell (i := k * 5 + 2) (by omega)
      have u3 := hF.cell (i := k * 5 + 3) (by omega)
      have u4 := hF.cell (i := k * 5 + 4) (by omega)
      have f0 := hF.frozen (k * 5)
      have f1 := hF.frozen (k * 5 + 1)
      have f2 := hF.frozen (k * 5 + 2)
      have f3 := hF.frozen (k * 5 + 3)
      have f4 := hF.frozen (k * 5 + 4)
      have hk5 : k * 5 + 5 ≤ n * 5 := by omega
      have hp := qe_set (k1 := k1) (k2 := k2) (k3 := k3) hF hk5 hc1 n1
      clear hF
      generalize hq : ofv x y z = q at *
      go_wp2_with fail
      obtain ⟨V, hV⟩ : ∃ V : World, V = set5q w1 w.heap.size (k * 5) q A1 A2 A3 k1 k2 k3 := ⟨_, rfl⟩
      have hw : set5q w1 w.heap.size (k * 5) q A1 A2 A3 k1 k2 k3 = V := hV.symm
      unfold set5q at hw
      rw [hw]
      clear hw
      go_roundw
      case rel =>
        refine ⟨k + 1, by omega, by go_num, ?_, fun _ => ?_, fun j hj => ?_, ?_⟩
        · rw [hV, set5q_size]; exact hsz'
        · rw [hV]; exact hrow2.set5q
        · rw [hV]
          by_cases e : j = k
          · subst e; rw [hX, hY, hZ, hq]; exact hp
          · exact (hpe j (by omega)).set5q (.inr (.inl (by omega))) hc1
        · rw [hV]; exact set5q_below hbel' (Nat.le_refl _)
      case measure => simp [intOf]; omega
    · obtain rfl : k = n := by omega
      go_wp2_with fail
      go_ret
      exact ⟨_, rfl, Nat.le_refl _, hrow', hpe, hbel'⟩
end Go.Proofs.YtdpjknjlhchmcaaGreat

namespace Go.Proofs.YtdpjknjlhchmcaaGreat
open Go.RowKit Pl
set_option linter.unusedVariables false
set_option linter.unusedSimpArgs false
/-- Slices of triples. -/
def Tables (w : World) (A : Option Addr) (n : Nat) (N : Nat → Nat) (X Y Z : Nat → Nat → Int) : Prop := ∃ R K, Grid w A n R N K ∧ ∀ i, i < n → Triples w (R i) (N i) (X i) (Y i) (Z i)
theorem Tables.to {w w' : World} {A : Option Addr} {n : Nat} {N : Nat → Nat} {X Y Z : Nat → Nat → Int} (h : Tables w A n N X Y Z) (hb : Below w.heap.size w w') : Tables w' A n N X Y Z := by
  obtain ⟨R, K, h1, h2⟩ := h; exact ⟨R, K, h1.to hb, fun i hi => (h2 i hi).to hb⟩
/-- A cell of a block whose first cell is a slice is set. -/
theorem nat_setS {w : World} {p o n a b : Nat} {A S : Option Addr} {v : Value} (h : Nat32 w A n) (u : w.cell? ⟨p, 0, none⟩ = some (.slice S a b)) : Nat32 (w.setCell ⟨p, o, none⟩ v) A n :=
  h.setBox u (by intro k m e; cases e)
/-- 'make' of n slices. -/
def mkS (w : World) (n : Nat) (T : TypeId) : World := w.alloc (.cells (madeCells #[.slice none 0 0] n) T)
theorem mkS_size (w : World) (n : Nat) (T : TypeId) : (mkS w n T).heap.size = w.heap.size + 1 := by simp [mkS]
theorem mkS_below (w : World) (n : Nat) (T : TypeId) : Below w.heap.size w (mkS w n T) := (Below.refl _ _).alloc (Nat.le_refl _) _
theorem mkS_row (w : World) (n : Nat) (T : TypeId) : (mkS w n T).rowIs w.heap.size T n (fun _ => .slice none 0 0) := by
  have h := World.rowIs_alloc w (madeCells #[.slice none 0 0] n) T (fun _ => .slice none 0 0) (fun i hi => by rw [size_madeCells] at hi; simp [madeCells, hi, Nat.mod_one])
  rwa [size_madeCells] at h
theorem Tryz.info_nums : (Tryz.prog.info? 28).map (fun i => (i.zero, i.size, i.bytes)) = some (some (.slice none 0 0), 1, 24) := by kernel_rfl
theorem Tryz.und_nums2 : Tryz.prog.underlying 26 = some (.slice 28) := by kernel_rfl
theorem mk_nums2 (n : Nat) (hn : n ≤ 100000) (w : World) : (Instr.makeSlice 26 (.int .i64 (n : Int)) (.int .i64 (n : Int))).run Tryz.prog w = .ok (.slice (some ⟨w.heap.size, 0, none⟩) n n) (mkS w n 28) := by
  obtain ⟨i, hi, hz, hs, hb⟩ := info_parts Tryz.info_nums
  have := run_make (P := Tryz.prog) w 26 _ i _ Tryz.und_nums2 hi hz .i64 .i64 n n (by omega) (by omega) (by rw [hb]; omega) (by omega)
  simpa [hs, mkS, Value.cells] using this
/-- A matrix in memory. -/
def MatP (w : World) (A : Option Addr) (n : Nat) (N : Nat → Nat) (f : Nat → Nat → Cx) : Prop := ∃ R K, Grid w A n R N K ∧ ∀ i, i < n → ∀ j, j < N i → ∃ g, R i = some ⟨g, 0, none⟩ ∧ PE w g (j * 5) (f i j)
theorem MatP.to {w w' : World} {A : Option Addr} {n : Nat} {N : Nat → Nat} {f : Nat → Nat → Cx} (h : MatP w A n N f) (hb : Below w.heap.size w w') : MatP w' A n N f := by
  obtain ⟨R, K, h1, h2⟩ := h
  exact ⟨R, K, h1.to hb, fun i hi j hj => by obtain ⟨g, e, p⟩ := h2 i hi j hj; exact ⟨g, e, p.to hb⟩⟩
theorem PE.setS {w : World} {g p o i a b : Nat} {S : Option Addr} {r : Cx} {v : Value} (h : PE w g i r) (hn : g ≠ p) (u : w.cell? ⟨p, 0, none⟩ = some (.slice S a b)) : PE (w.setCell ⟨p, o, none⟩ v) g i r := by
  obtain ⟨A1, A2, A3, ⟨c0, c1, c2, c3, c4⟩, n1, n2, n3⟩ := h
  exact ⟨A1, A2, A3, ⟨keepo c0 (.inl hn), keepo c1 (.inl hn), keepo c2 (.inl hn), keepo c3 (.inl hn), keepo c4 (.inl hn)⟩, nat_setS n1 u, nat_setS n2 u, nat_setS n3 u⟩
def RetMatP (w : World) (n : Nat) (N : Nat → Nat) (f : Nat → Nat → Cx) (e : Ending) (w' : World) : Prop := ∃ A c, e = .returned (.slice A n c) ∧ MatP w' A n N f ∧ Below w.heap.size w w'
set_option maxHeartbeats 4000000 in
theorem rows_any (w : World) (A : Option Addr) (n c : Nat) (N : Nat → Nat) (X Y Z : Nat → Nat → Int) (hT : Tables w A n N X Y Z) (hn : n ≤ 1000) (hN : ∀ i, i < n → N i ≤ 1000) :
    Calls Tryz.prog 9 #[.slice A n c] w (RetMatP w n N fun i j => ofv (X i j) (Y i j) (Z i j)) := by
  have hmk := mk_nums2 n (by omega)
  obtain ⟨R, K, hG, hR⟩ := hT
  have HN := Lib.hid hN
  clear hN
  go_enter Tryz.func9, Tryz.ntmps9
  go_wp2_with fail
  clear hmk
  have hrow := mkS_row w n 28
  have hbel := mkS_below w n 28
  have hsz := mkS_size w n 28
  generalize mkS w n 28 = W0 at *
  go_loopw [11] (fun i (wr : World) => ∃ k : Nat, k ≤ n ∧ i = .int .i64 k ∧ w.heap.size < wr.heap.size ∧ (∃ F, wr.rowIs w.heap.size 28 n F) ∧ (0 < n → ∃ (S : Option Addr) (a b : Nat), wr.cell? ⟨w.heap.size, 0, none⟩ = some (.slice S a b)) ∧ (∀ j, j < k → ∃ g, w.heap.size < g ∧ wr.cell? ⟨w.heap.size, j, none⟩ = some (.slice (some ⟨g, 0, none⟩) (N j) (N j)) ∧ ∀ i, i < N j → PE wr g (i * 5) (ofv (X j i) (Y j i) (Z j i))) ∧ Below w.heap.size w wr) (fun i _ => n - (intOf i).toNat)
  case atStart => exact ⟨0, Nat.zero_le _, rfl, by omega, ⟨_, hrow⟩, fun h => ⟨_, _, _, hrow.cell (i := 0) h⟩, fun j hj => absurd hj (by omega), hbel⟩
  case round =>
    obtain ⟨k, hk, rfl, hsz', ⟨F, hF⟩, hs0, hpe, hbel'⟩ := hrel
    clear hrow hbel hsz
    by_cases hlt : k < n
    · have hTk := (hR k hlt).to hbel'
      have hNk := HN.out k hlt
      obtain ⟨b, off, rfl, hl, c0⟩ := hG k hlt
      have d0 := (hbel'.cell (p := ⟨b, off + k, none⟩) hl).trans c0
      clear c0
      have hb2 : b < wr.heap.size := by omega
      generalize hRk : R k = Rk at *
      generalize hNN : N k = m at *
      generalize hKk : K k = ck at *
      go_wp2_with fail
      refine (list_any _ Rk m ck (X k) (Y k) (Z k) hTk (by omega)).mono ?_
      rintro e w1 ⟨g, rfl, hg, _, hpn, hb⟩
      have hg2 : w.heap.size < g := Nat.lt_of_lt_of_le hsz' hg
      replace hF := hF.of_block (hb.block w.heap.size hsz')
      replace hs0 : 0 < n → ∃ (S : Option Addr) (a b : Nat), w1.cell? ⟨w.heap.size, 0, none⟩ = some (.slice S a b) := fun h => by obtain ⟨S, a, b, e⟩ := hs0 h; exact ⟨S, a, b, keepc hb e hsz'⟩
      replace hpe : ∀ j, j < k → ∃ g, w.heap.size < g ∧ w1.cell? ⟨w.heap.size, j, none⟩ = some (.slice (some ⟨g, 0, none⟩) (N j) (N j)) ∧ ∀ i, i < N j → PE w1 g (i * 5) (ofv (X j i) (Y j i) (Z j i)) := fun j hj => by
        obtain ⟨g, h1, h2, h3⟩ := hpe j hj; exact ⟨g, h1, keepc hb h2 hsz', fun i hi => (h3 i hi).to hb⟩
      replace hbel' := hbel'.trans (hb.mono hbel'.size)
      replace hsz' := Nat.lt_of_lt_of_le hsz' hb.size
      clear hb d0 hb2 hl hTk hg
      have u0 := hF.cell (i := k) hlt
      have f0 := hF.frozen k
      go_wp2_with fail
      obtain ⟨S, a, b', hS⟩ := hs0 (by omega)
      go_roundw
      case rel =>
        refine ⟨k + 1, by omega, by go_num, by simpa using hsz', ⟨_, hF.set _ _⟩, fun _ => ?_, fun j hj => ?_, hbel'.setCell (Nat.le_refl _) _⟩
        · by_cases e : k = 0
          · subst e; exact ⟨_, _, _, cell_self u0⟩
          · exact ⟨_, _, _, keepo hS (.inr (by omega))⟩
        · by_cases e : j = k
          · subst e; exact ⟨g, hg2, by rw [hNN]; exact cell_self u0, fun i hi => (hpn i (by omega)).setS (by omega) hS⟩
          · obtain ⟨g', h1, h2, h3⟩ := hpe j (by omega)
            exact ⟨g', h1, keepo h2 (.inr (by omega)), fun i hi => (h3 i hi).setS (by omega) hS⟩
      case measure => simp [intOf]; omega
    · obtain rfl : k = n := by omega
      go_wp2_with fail
      go_ret
      have hch : ∀ j, ∃ g, j < k → (w.heap.size < g ∧ wr.cell? ⟨w.heap.size, j, none⟩ = some (.slice (some ⟨g, 0, none⟩) (N j) (N j)) ∧ ∀ i, i < N j → PE wr g (i * 5) (ofv (X j i) (Y j i) (Z j i))) := fun j => by
        by_cases h : j < k
        · obtain ⟨g, h'⟩ := hpe j h; exact ⟨g, fun _ => h'⟩
        · exact ⟨0, fun h' => absurd h' h⟩
      obtain ⟨G, hGG⟩ := Classical.skolem.1 hch
      exact ⟨_, _, rfl, ⟨fun j => some ⟨G j, 0, none⟩, N, fun i hi => ⟨_, 0, rfl, hsz', by rw [Nat.zero_add]; exact (hGG i hi).2.1⟩, fun i hi j hj => ⟨_, rfl, (hGG i hi).2.2 j hj⟩⟩, hbel'⟩
theorem Tryz.info_qs : (Tryz.prog.info? 33).map (fun i => (i.zero, i.size, i.bytes)) = some (some (.slice none 0 0), 1, 24) := by kernel_rfl
theorem Tryz.und_qs2 : Tryz.prog.underlying 36 = some (.slice 33) := by kernel_rfl
theorem mk_qs2 (n : Nat) (hn : n ≤ 100000) (w : World) : (Instr.makeSlice 36 (.int .i64 (n : Int)) (.int .i64 (n : Int))).run Tryz.prog w = .ok (.slice (some ⟨w.heap.size, 0, none⟩) n n) (mkS w n 33) := by
  obtain ⟨i, hi, hz, hs, hb⟩ := info_parts Tryz.info_qs
  have := run_make (P := Tryz.prog) w 36 _ i _ Tryz.und_qs2 hi hz .i64 .i64 n n (by omega) (by omega) (by rw [hb]; omega) (by omega)
  simpa [hs, mkS, Value.cells] using this
/-- A matrix in memory. -/
def MatQ (w : World) (A : Option Addr) (n : Nat) (N : Nat → Nat) (f : Nat → Nat → Cx) : Prop := ∃ R K, Grid w A n R N K ∧ ∀ i, i < n → ∀ j, j < N i → ∃ g, R i = some ⟨g, 0, none⟩ ∧ QE w g (j * 5) (f i j)
theorem MatQ.to {w w' : World} {A : Option Addr} {n : Nat} {N : Nat → Nat} {f : Nat → Nat → Cx} (h : MatQ w A n N f) (hb : Below w.heap.size w w') : MatQ w' A n N f := by
  obtain ⟨R, K, h1, h2⟩ := h
  exact ⟨R, K, h1.to hb, fun i hi j hj => by obtain ⟨g, e, p⟩ := h2 i hi j hj; exact ⟨g, e, p.to hb⟩⟩
theorem QE.setS {w : World} {g p o i a b : Nat} {S : Option Addr} {r : Cx} {v : Value} (h : QE w g i r) (hn : g ≠ p) (u : w.cell? ⟨p, 0, none⟩ = some (.slice S a b)) : QE (w.setCell ⟨p, o, none⟩ v) g i r := by
  obtain ⟨A1, A2, A3, k1, k2, k3, ⟨c0, c1, c2, c3, c4⟩, n1, n2, n3⟩ := h
  exact ⟨A1, A2, A3, k1, k2, k3, ⟨keepo c0 (.inl hn), keepo c1 (.inl hn), keepo c2 (.inl hn), keepo c3 (.inl hn), keepo c4 (.inl hn)⟩, nat_setS n1 u, nat_setS n2 u, nat_setS n3 u⟩
def RetMatQ (w : World) (n : Nat) (N : Nat → Nat) (f : Nat → Nat → Cx) (e : Ending) (w' : World) : Prop := ∃ A c, e = .returned (.slice A n c) ∧ MatQ w' A n N f ∧ Below w.heap.size w w'
set_option maxHeartbeats 4000000 in
theorem refrows_any (w : World) (A : Option Addr) (n c : Nat) (N : Nat → Nat) (X Y Z : Nat → Nat → Int) (hT : Tables w A n N X Y Z) (hn : n ≤ 1000) (hN : ∀ i, i < n → N i ≤ 1000) :
    Calls Tryz.prog 13 #[.slice A n c] w (RetMatQ w n N fun i j => ofv (X i j) (Y i j) (Z i j)) := by
  have hmk := mk_qs2 n (by omega)
  obtain ⟨R, K, hG, hR⟩ := hT
  have HN := Lib.hid hN
  clear hN
  go_enter Tryz.func13, Tryz.ntmps13
  go_wp2_with fail
  clear hmk
  have hrow := mkS_row w n 33
  have hbel := mkS_below w n 33
  have hsz := mkS_size w n 33
  generalize mkS w n 33 = W0 at *
  go_loopw [11] (fun i (wr : World) => ∃ k : Nat, k ≤ n ∧ i = .int .i64 k ∧ w.heap.size < wr.heap.size ∧ (∃ F, wr.rowIs w.heap.size 33 n F) ∧ (0 < n → ∃ (S : Option Addr) (a b : Nat), wr.cell? ⟨w.heap.size, 0, none⟩ = some (.slice S a b)) ∧ (∀ j, j < k → ∃ g, w.heap.size < g ∧ wr.cell? ⟨w.heap.size, j, none⟩ = some (.slice (some ⟨g, 0, none⟩) (N j) (N j)) ∧ ∀ i, i < N j → QE wr g (i * 5) (ofv (X j i) (Y j i) (Z j i))) ∧ Below w.heap.size w wr) (fun i _ => n - (intOf i).toNat)
  case atStart => exact ⟨0, Nat.zero_le _, rfl, by omega, ⟨_, hrow⟩, fun h => ⟨_, _, _, hrow.cell (i := 0) h⟩, fun j hj => absurd hj (by omega), hbel⟩
  case round =>
    obtain ⟨k, hk, rfl, hsz', ⟨F, hF⟩, hs0, hpe, hbel'⟩ := hrel
    clear hrow hbel hsz
    by_cases hlt : k < n
    · have hTk := (hR k hlt).to hbel'
      have hNk := HN.out k hlt
      obtain ⟨b, off, rfl, hl, c0⟩ := hG k hlt
      have d0 := (hbel'.cell (p := ⟨b, off + k, none⟩) hl).trans c0
      clear c0
      have hb2 : b < wr.heap.size := by omega
      generalize hRk : R k = Rk at *
      generalize hNN : N k = m at *
      generalize hKk : K k = ck at *
      go_wp2_with fail
      refine (reflist_any _ Rk m ck (X k) (Y k) (Z k) hTk (by omega)).mono ?_
      rintro e w1 ⟨g, rfl, hg, _, hpn, hb⟩
      have hg2 : w.heap.size < g := Nat.lt_of_lt_of_le hsz' hg
      replace hF := hF.of_block (hb.block w.heap.size hsz')
      replace hs0 : 0 < n → ∃ (S : Option Addr) (a b : Nat), w1.cell? ⟨w.heap.size, 0, none⟩ = some (.slice S a b) := fun h => by obtain ⟨S, a, b, e⟩ := hs0 h; exact ⟨S, a, b, keepc hb e hsz'⟩
      replace hpe : ∀ j, j < k → ∃ g, w.heap.size < g ∧ w1.cell? ⟨w.heap.size, j, none⟩ = some (.slice (some ⟨g, 0, none⟩) (N j) (N j)) ∧ ∀ i, i < N j → QE w1 g (i * 5) (ofv (X j i) (Y j i) (Z j i)) := fun j hj => by
        obtain ⟨g, h1, h2, h3⟩ := hpe j hj; exact ⟨g, h1, keepc hb h2 hsz', fun i hi => (h3 i hi).to hb⟩
      replace hbel' := hbel'.trans (hb.mono hbel'.size)
      replace hsz' := Nat.lt_of_lt_of_le hsz' hb.size
      clear hb d0 hb2 hl hTk hg
      have u0 := hF.cell (i := k) hlt
      have f0 := hF.frozen k
      go_wp2_with fail
      obtain ⟨S, a, b', hS⟩ := hs0 (by omega)
      go_roundw
      case rel =>
        refine ⟨k + 1, by omega, by go_num, by simpa using hsz', ⟨_, hF.set _ _⟩, fun _ => ?_, fun j hj => ?_, hbel'.setCell (Nat.le_refl _) _⟩
        · by_cases e : k = 0
          · subst e; exact ⟨_, _, _, cell_self u0⟩
          · exact ⟨_, _, _, keepo hS (.inr (by omega))⟩
        · by_cases e : j = k
          · subst e; exact ⟨g, hg2, by rw [hNN]; exact cell_self u0, fun i hi => (hpn i (by omega)).setS (by omega) hS⟩
          · obtain ⟨g', h1, h2, h3⟩ := hpe j (by omega)
            exact ⟨g', h1, keepo h2 (.inr (by omega)), fun i hi => (h3 i hi).setS (by omega) hS⟩
      case measure => simp [intOf]; omega
    · obtain rfl : k = n := by omega
      go_wp2_with fail
      go_ret
      have hch : ∀ j, ∃ g, j < k → (w.heap.size < g ∧ wr.cell? ⟨w.heap.size, j, none⟩ = some (.slice (some ⟨g, 0, none⟩) (N j) (N j)) ∧ ∀ i, i < N j → QE wr g (i * 5) (ofv (X j i) (Y j i) (Z j i))) := fun j => by
        by_cases h : j < k
        · obtain ⟨g, h'⟩ := hpe j h; exact ⟨g, fun _ => h'⟩
        · exact ⟨0, fun h' => absurd h' h⟩
      obtain ⟨G, hGG⟩ := Classical.skolem.1 hch
      exact ⟨_, _, rfl, ⟨fun j => some ⟨G j, 0, none⟩, N, fun i hi => ⟨_, 0, rfl, hsz', by rw [Nat.zero_add]; exact (hGG i hi).2.1⟩, fun i hi j hj => ⟨_, rfl, (hGG i hi).2.2 j hj⟩⟩, hbel'⟩
end Go.Proofs.YtdpjknjlhchmcaaGreat

namespace Go.Proofs.YtdpjknjlhchmcaaGreat
open Go.RowKit Pl
set_option linter.unusedVariables false
set_option linter.unusedSimpArgs false
set_option maxHeartbeats 4000000 in
theorem clos_any (w : World) (R : Option Addr) (m k gn v : Nat) (mn : w.cell? ⟨gn, 0, none⟩ = some (.int .i64 v)) (b : Bool) (hb : ((m : Int) != (v : Int)) = b) :
    Calls Tryz.prog 106 #[.slice R m k, .pointer (some ⟨gn, 0, none⟩)] w fun e w' => e = .returned (.bool b) ∧ w' = w := by
  go_enter Tryz.func106, Tryz.ntmps106
  go_wp2_with fail
  go_ret
  exact ⟨rfl, rfl⟩
set_option maxHeartbeats 4000000 in
theorem index_any (w : World) (A : Option Addr) (n c gn v : Nat) (R : Nat → Option Addr) (N K : Nat → Nat) (hG : Grid w A n R N K) (hn : n ≤ 1000) (mn : w.cell? ⟨gn, 0, none⟩ = some (.int .i64 v)) :
    Calls Tryz.prog 83 #[.slice A n c, .func (.func 106) #[] #[.pointer (some ⟨gn, 0, none⟩)]] w fun e w' => ∃ r : Int, e = .returned (.int .i64 r) ∧ ((r = -1 ∧ ∀ i, i < n → N i = v) ∨ (0 ≤ r ∧ ∃ i, i < n ∧ N i ≠ v)) ∧ w' = w := by
  go_enter Tryz.func83, Tryz.ntmps83
  go_wp2_with fail
  go_loopw [8] (fun i wr => ∃ k : Nat, k ≤ n ∧ i = .int .i64 k ∧ (∀ j, j < k → N j = v) ∧ wr = w) (fun i _ => n - (intOf i).toNat)
  case atStart => exact ⟨0, Nat.zero_le _, rfl, fun j hj => absurd hj (by omega), rfl⟩
  case round =>
    obtain ⟨k, hk, rfl, hall, rfl⟩ := hrel
    have HA := Lib.hid hall
    clear hall
    by_cases hlt : k < n
    · obtain ⟨b, off, rfl, hl, d0⟩ := hG k hlt
      by_cases hv : N k = v
      · have t1 : ((N k : Int) != (v : Int)) = false := by rw [bne_eq_false_iff_eq]; omega
        have HV := Lib.hid hv
        clear hv
        go_wp2_with fail
        refine (clos_any wr (R k) (N k) (K k) gn v mn false t1).mono ?_
        rintro e w1 ⟨rfl, rfl⟩
        go_wp2_with fail
        go_roundw
        case rel => exact ⟨k + 1, by omega, by go_num, fun j hj => by
          by_cases e : j = k
          · subst e; exact HV.out
          · exact HA.out j (by omega), trivial⟩
        case measure => simp [intOf]; omega
      · have t1 : ((N k : Int) != (v : Int)) = true := by rw [bne_iff_ne]; omega
        have HV := Lib.hid hv
        clear hv
        go_wp2_with fail
        refine (clos_any wr (R k) (N k) (K k) gn v mn true t1).mono ?_
        rintro e w1 ⟨rfl, rfl⟩
        go_wp2_with fail
        go_ret
        exact ⟨k, rfl, .inr ⟨by omega, k, hlt, HV.out⟩, rfl⟩
    · obtain rfl : k = n := by omega
      go_wp2_with fail
      go_ret
      exact ⟨-1, rfl, .inl ⟨rfl, HA.out⟩, rfl⟩
set_option maxHeartbeats 4000000 in
theorem contains_any (w : World) (A : Option Addr) (n c gn v : Nat) (R : Nat → Option Addr) (N K : Nat → Nat) (hG : Grid w A n R N K) (hn : n ≤ 1000) (mn : w.cell? ⟨gn, 0, none⟩ = some (.int .i64 v)) (b : Bool) (hb : b = false ↔ ∀ i, i < n → N i = v) :
    Calls Tryz.prog 73 #[.slice A n c, .func (.func 106) #[] #[.pointer (some ⟨gn, 0, none⟩)]] w fun e w' => e = .returned (.bool b) ∧ w' = w := by
  have HB := Lib.hid hb
  clear hb
  go_enter Tryz.func73, Tryz.ntmps73
  go_wp2_with fail
  refine (index_any w A n c gn v R N K hG hn mn).mono ?_
  rintro e w2 ⟨r, rfl, hr, rfl⟩
  have t : decide (0 ≤ r) = b := by
    rcases hr with ⟨h1, h2⟩ | ⟨h1, i, hi, h2⟩
    · rw [HB.out.2 h2, decide_eq_false_iff_not]; omega
    · cases b with
      | true => rw [decide_eq_true_eq]; exact h1
      | false => exact absurd (HB.out.1 rfl i hi) h2
  clear hr
  go_wp2_with fail
  go_ret
  exact ⟨rfl, rfl⟩
/-- All rows are equally long, and nothing is longer than 32. -/
def Valid (n : Nat) (N : Nat → Nat) : Prop := n = 0 ∨ (n ≤ 32 ∧ N 0 ≤ 32 ∧ ∀ i, i < n → N i = N 0)
def colN (n : Nat) (N : Nat → Nat) : Nat := if n = 0 then 0 else N 0
def RetCol (w : World) (v : Nat) (ok : Bool) (e : Ending) (w' : World) : Prop := e = .returned (.tuple #[.int .i64 (v : Int), .bool ok]) ∧ Below w.heap.size w w'
set_option maxRecDepth 100000 in
set_option maxHeartbeats 4000000 in
theorem columns_any (w : World) (A : Option Addr) (n c : Nat) (R : Nat → Option Addr) (N K : Nat → Nat) (hG : Grid w A n R N K) (hn : n ≤ 1000) (hN : ∀ i, i < n → N i ≤ 1000) (ok : Bool) (hok : ok = true ↔ Valid n N) :
    Calls Tryz.prog 62 #[.slice A n c] w (RetCol w (colN n N) ok) := by
  by_cases h0 : n = 0
  · have t0 : ((n : Int) == 0) = true := by simpa using h0
    obtain rfl : ok = true := hok.2 (.inl h0)
    have e0 : colN n N = 0 := by unfold colN; rw [if_pos h0]
    rw [e0]
    clear h0 hok hN hn hG e0
    go_enter Tryz.func62, Tryz.ntmps62
    go_wp2_with fail
    exact bodyPost_ret (v := .tuple #[.int .i64 0, .bool true]) (by simp [results, Tryz.results62, go_sem]) rfl ⟨rfl, Below.refl _ _⟩
  · have t0 : ((n : Int) == 0) = false := by simpa using h0
    have e0 : colN n N = N 0 := by unfold colN; rw [if_neg h0]
    rw [e0]
    obtain ⟨v, hv⟩ : ∃ v, v = N 0 := ⟨_, rfl⟩
    have hv2 : v ≤ 1000 := by rw [hv]; exact hN 0 (by omega)
    have HOK : Hid (ok = true ↔ (n ≤ 32 ∧ v ≤ 32 ∧ ∀ i, i < n → N i = v)) := Lib.hid (by
      rw [hok, hv]; unfold Valid
      exact ⟨fun h => h.resolve_left h0, fun h => .inr h⟩)
    obtain ⟨b0, fo, rfl, hl, d0⟩ := hG 0 (by omega)
    rw [Nat.add_zero, ← hv] at d0
    rw [← hv]
    have HG := Lib.hid hG
    clear hok hN hG hv e0
    by_cases c1 : n ≤ 32
    · have t1 : decide ((n : Int) ≤ 32) = true := by rw [decide_eq_true_eq]; omega
      by_cases c2 : v ≤ 32
      · have t2 : decide ((v : Int) ≤ 32) = true := by rw [decide_eq_true_eq]; omega
        go_enter Tryz.func62, Tryz.ntmps62
        go_wp2_with fail
        obtain ⟨X, hX⟩ : ∃ X : World, X = w.alloc (.cells #[.int .i64 v] 3) := ⟨_, rfl⟩
        have hb1 : Below w.heap.size w X := by rw [hX]; exact (Below.refl _ _).alloc (Nat.le_refl _) _
        have mn : X.cell? ⟨w.heap.size, 0, none⟩ = some (.int .i64 v) := by subst hX; go_simp
        rw [← hX]
        have hG2 := HG.out.to hb1
        have HB := Lib.hid hb1
        clear hb1 hX d0
        have hc : (!ok) = false ↔ ∀ i, i < n → N i = v := by
          rw [Bool.not_eq_false', HOK.out]; exact ⟨fun h => h.2.2, fun h => ⟨c1, c2, h⟩⟩
        obtain ⟨bb, hbb⟩ : ∃ b, b = !ok := ⟨_, rfl⟩
        have hok2 : (!bb) = ok := by rw [hbb, Bool.not_not]
        rw [← hbb] at hc
        have HC := Lib.hid hc
        clear hc hbb
        go_region_held3 (fun w' => w'.cell? ⟨w.heap.size, 0, none⟩ = some (.int .i64 v)) (first | exact mn) (first
          | (go_at_call 73; refine (contains_any _ (some ⟨b0, fo, none⟩) n c w.heap.size v R N K (by exact hG2) hn (by exact mn) bb HC.out).mono ?_; rintro e w2 ⟨rfl, rfl⟩))
        go_wp2_with fail
        refine bodyPost_ret (v := .tuple #[.int .i64 v, .bool ok]) (by simp [results, Tryz.results62, go_sem, hok2]) rfl ?_
        exact ⟨rfl, ⟨HB.out.os, HB.out.tape, HB.out.output, HB.out.size, HB.out.block⟩⟩
      · have t2 : decide ((v : Int) ≤ 32) = false := by rw [decide_eq_false_iff_not]; omega
        obtain rfl : ok = false := by
          cases ok with
          | false => rfl
          | true => exact absurd (HOK.out.1 rfl).2.1 c2
        go_enter Tryz.func62, Tryz.ntmps62
        go_wp2_with fail
        obtain ⟨X, hX⟩ : ∃ X : World, X = w.alloc (.cells #[.int .i64 v] 3) := ⟨_, rfl⟩
        have hb1 : Below w.heap.size w X := by rw [hX]; exact (Below.refl _ _).alloc (Nat.le_refl _) _
        have mn : X.cell? ⟨w.heap.size, 0, none⟩ = some (.int .i64 v) := by subst hX; go_simp
        rw [← hX]
        clear hX d0 HG HOK
        refine wp_region_any (by kernel_rfl) ?_
        refine wpAny_inv (fun l a' w' => ∃ V : Nat → Value, OnAll l V (fun j => List.getD [.int .i64 v, .slice (some ⟨b0, fo, none⟩) n c, .int .i64 n, .bool true, .bool true, .int .i64 v, .bool false, .bool false, .bool false, undef, undef, undef, undef, .bool false, .int .i64 v, .bool false] j undef) ∧ a' = ⟨#[.slice (some ⟨b0, fo, none⟩) n c, undef, V 14, V 15, .pointer (some ⟨w.heap.size, 0, none⟩), .slice (some ⟨b0, fo, none⟩) n c, .int .i64 n, .bool false, .slice (some ⟨b0, fo, none⟩) n c, .pointer (some ⟨b0, fo, none⟩), .slice (R 0) v (K 0), .int .i64 v, V 0, V 1, V 2, V 3, V 4, V 5, V 6, V 7, V 8, V 9, V 10, V 11, V 12, V 13], []⟩ ∧ (w'.cell? ⟨w.heap.size, 0, none⟩ = some (.int .i64 v) ∧ Below w.heap.size w w') ∧ l.size = 16) ?_ ?_ _ _ _ _ (by decide) ?_
        · intro l a' W' i hi hI
          obtain ⟨V, hv, rfl, HW, hz⟩ := hI
          obtain ⟨hlt, _, hpre⟩ := ready_pre hi
          have hc : i ∈ [0, 1, 2, 3, 4, 5, 6, 7, 8, 9, 10, 11, 12, 13, 14, 15] := (by decide : ∀ i, i < 16 → i ∈ [0, 1, 2, 3, 4, 5, 6, 7, 8, 9, 10, 11, 12, 13, 14, 15]) i hlt
          simp only [List.mem_cons, List.not_mem_nil, or_false] at hc
          clear hi hlt
          rcases hc with rfl | rfl | rfl | rfl | rfl | rfl | rfl | rfl | rfl | rfl | rfl | rfl | rfl | rfl | rfl | rfl <;> (have hp := hpre _ rfl; simp [Region.binds] at hp; clear hpre)
          · skip
            have HV := Lib.hid hv
            clear hv hp
            have z0 := HW.1
            refine wpOp_go rfl rfl (fun K hK => ?_)
            go_simp
            refine hK _ _ ?_
            exact ⟨_, HV.out.new (x := .int .i64 v) rfl, rfl, HW, by simp [hz]⟩
          · skip
            have HV := Lib.hid hv
            clear hv hp
            refine wpOp_go rfl rfl (fun K hK => ?_)
            go_simp
            refine hK _ _ ?_
            exact ⟨_, HV.out.new (x := .slice (some ⟨b0, fo, none⟩) n c) rfl, rfl, HW, by simp [hz]⟩
          · skip
            have e1 : V 1 = .slice (some ⟨b0, fo, none⟩) n c := hv.get 1 (by simp [hp])
            have HV := Lib.hid (hv.fix e1 rfl)
            clear hv hp
            simp only [e1]
            refine wpOp_go rfl rfl (fun K hK => ?_)
            go_simp
            refine hK _ _ ?_
            exact ⟨_, HV.out.new (x := .int .i64 n) rfl, rfl, HW, by simp [hz]⟩
          · skip
            have e2 : V 2 = .int .i64 n := hv.get 2 (by simp [hp])
            have HV := Lib.hid (hv.fix e2 rfl)
            clear hv hp
            simp only [e2]
            refine wpOp_go rfl rfl (fun K hK => ?_)
            go_simp
            refine hK _ _ ?_
            exact ⟨_, HV.out.new (x := .bool true) rfl, rfl, HW, by simp [hz]⟩
          · skip
            have e3 : V 3 = .bool true := hv.get 3 (by simp [hp])
            have HV := Lib.hid (hv.fix e3 rfl)
            clear hv hp
            simp only [e3]
            refine wpOp_go rfl rfl (fun K hK => ?_)
            go_simp
            refine hK _ _ ?_
            exact ⟨_, HV.out.new (x := .bool true) rfl, rfl, HW, by simp [hz]⟩
          · skip
            have e4 : V 4 = .bool true := hv.get 4 (by simp [hp])
            have HV := Lib.hid (hv.fix e4 rfl)
            clear hv hp
            simp only [e4]
            have z0 := HW.1
            refine wpOp_gg rfl rfl (fun K hK => ?_)
            go_simp
            refine hK _ _ ?_
            exact ⟨_, HV.out.new (x := .int .i64 v) rfl, rfl, HW, by simp [hz]⟩
          · skip
            have e5 : V 5 = .int .i64 v := hv.get 5 (by simp [hp])
            have e4 : V 4 = .bool true := hv.get 4 (by simp [hp])
            have HV := Lib.hid ((hv.fix e5 rfl).fix (i := 4) (x := .bool true) e4 rfl)
            clear hv hp
            simp only [e5, e4]
            refine wpOp_gg rfl rfl (fun K hK => ?_)
            go_simp
            refine hK _ _ ?_
            exact ⟨_, HV.out.new (x := .bool false) rfl, rfl, HW, by simp [hz]⟩
          · skip
            have e4 : V 4 = .bool true := hv.get 4 (by simp [hp])
            have e6 : V 6 = .bool false := hv.get 6 (by simp [hp])
            have HV := Lib.hid ((hv.fix e4 rfl).fix (i := 6) (x := .bool false) e6 rfl)
            clear hv hp
            simp only [e4, e6]
            refine wpOp_go rfl rfl (fun K hK => ?_)
            go_simp
            refine hK _ _ ?_
            exact ⟨_, HV.out.new (x := .bool false) rfl, rfl, HW, by simp [hz]⟩
          · skip
            have e7 : V 7 = .bool false := hv.get 7 (by simp [hp])
            have HV := Lib.hid (hv.fix e7 rfl)
            clear hv hp
            simp only [e7]
            refine wpOp_go rfl rfl (fun K hK => ?_)
            go_simp
            refine hK _ _ ?_
            exact ⟨_, HV.out.new (x := .bool false) rfl, rfl, HW, by simp [hz]⟩
          · skip
            have e8 : V 8 = .bool false := hv.get 8 (by simp [hp])
            have HV := Lib.hid (hv.fix e8 rfl)
            clear hv hp
            simp only [e8]
            refine wpOp_sk rfl rfl (fun K hK => ?_)
            refine hK _ _ ?_
            exact ⟨_, HV.out.new (x := undef) rfl, rfl, HW, by simp [hz]⟩
          · skip
            have e8 : V 8 = .bool false := hv.get 8 (by simp [hp])
            have HV := Lib.hid (hv.fix e8 rfl)
            clear hv hp
            simp only [e8]
            refine wpOp_sk rfl rfl (fun K hK => ?_)
            refine hK _ _ ?_
            exact ⟨_, HV.out.new (x := undef) rfl, rfl, HW, by simp [hz]⟩
          · skip
            have e8 : V 8 = .bool false := hv.get 8 (by simp [hp])
            have HV := Lib.hid (hv.fix e8 rfl)
            clear hv hp
            simp only [e8]
            refine wpOp_sk rfl rfl (fun K hK => ?_)
            refine hK _ _ ?_
            exact ⟨_, HV.out.new (x := undef) rfl, rfl, HW, by simp [hz]⟩
          · skip
            have e8 : V 8 = .bool false := hv.get 8 (by simp [hp])
            have HV := Lib.hid (hv.fix e8 rfl)
            clear hv hp
            simp only [e8]
            refine wpOp_sk rfl rfl (fun K hK => ?_)
            refine hK _ _ ?_
            exact ⟨_, HV.out.new (x := undef) rfl, rfl, HW, by simp [hz]⟩
          · skip
            have e8 : V 8 = .bool false := hv.get 8 (by simp [hp])
            have HV := Lib.hid (hv.fix e8 rfl)
            clear hv hp
            simp only [e8]
            refine wpOp_go rfl rfl (fun K hK => ?_)
            go_simp
            refine hK _ _ ?_
            exact ⟨_, HV.out.new (x := .bool false) rfl, rfl, HW, by simp [hz]⟩
          · skip
            have e0 : V 0 = .int .i64 v := hv.get 0 (by simp [hp])
            have HV := Lib.hid (hv.fix e0 rfl)
            clear hv hp
            simp only [e0]
            refine wpOp_go rfl rfl (fun K hK => ?_)
            go_simp
            refine hK _ _ ?_
            exact ⟨_, HV.out.new (x := .int .i64 v) rfl, rfl, HW, by simp [hz]⟩
          · skip
            have e13 : V 13 = .bool false := hv.get 13 (by simp [hp])
            have HV := Lib.hid (hv.fix e13 rfl)
            clear hv hp
            simp only [e13]
            refine wpOp_go rfl rfl (fun K hK => ?_)
            go_simp
            refine hK _ _ ?_
            exact ⟨_, HV.out.new (x := .bool false) rfl, rfl, HW, by simp [hz]⟩
        · intro l a' W' hr hI
          obtain ⟨V, hv, rfl, HW, hz⟩ := hI
          have a0 := not_ready (i := 0) hr hz rfl (by simp [Region.binds])
          have a1 := not_ready (i := 1) hr hz rfl (by simp [Region.binds, a0])
          have a2 := not_ready (i := 2) hr hz rfl (by simp [Region.binds, a0, a1])
          have a3 := not_ready (i := 3) hr hz rfl (by simp [Region.binds, a0, a1, a2])
          have a4 := not_ready (i := 4) hr hz rfl (by simp [Region.binds, a0, a1, a2, a3])
          have a5 := not_ready (i := 5) hr hz rfl (by simp [Region.binds, a0, a1, a2, a3, a4])
          have a6 := not_ready (i := 6) hr hz rfl (by simp [Region.binds, a0, a1, a2, a3, a4, a5])
          have a7 := not_ready (i := 7) hr hz rfl (by simp [Region.binds, a0, a1, a2, a3, a4, a5, a6])
          have a8 := not_ready (i := 8) hr hz rfl (by simp [Region.binds, a0, a1, a2, a3, a4, a5, a6, a7])
          have a9 := not_ready (i := 9) hr hz rfl (by simp [Region.binds, a0, a1, a2, a3, a4, a5, a6, a7, a8])
          have a10 := not_ready (i := 10) hr hz rfl (by simp [Region.binds, a0, a1, a2, a3, a4, a5, a6, a7, a8, a9])
          have a11 := not_ready (i := 11) hr hz rfl (by simp [Region.binds, a0, a1, a2, a3, a4, a5, a6, a7, a8, a9, a10])
          have a12 := not_ready (i := 12) hr hz rfl (by simp [Region.binds, a0, a1, a2, a3, a4, a5, a6, a7, a8, a9, a10, a11])
          have a13 := not_ready (i := 13) hr hz rfl (by simp [Region.binds, a0, a1, a2, a3, a4, a5, a6, a7, a8, a9, a10, a11, a12])
          have a14 := not_ready (i := 14) hr hz rfl (by simp [Region.binds, a0, a1, a2, a3, a4, a5, a6, a7, a8, a9, a10, a11, a12, a13])
          have a15 := not_ready (i := 15) hr hz rfl (by simp [Region.binds, a0, a1, a2, a3, a4, a5, a6, a7, a8, a9, a10, a11, a12, a13, a14])
          clear hr
          have e14 : V 14 = .int .i64 v := hv.get 14 a14
          have e15 : V 15 = .bool false := hv.get 15 a15
          simp only [e14, e15]
          clear hv a0 a1 a2 a3 a4 a5 a6 a7 a8 a9 a10 a11 a12 a13 a14 a15
          go_wp2_with fail
          exact bodyPost_ret (v := .tuple #[.int .i64 v, .bool false]) (by simp [results, Tryz.results62, go_sem]) rfl ⟨rfl, HW.2⟩
        · exact ⟨fun j => List.getD [undef, undef, undef, undef, undef, undef, undef, undef, undef, undef, undef, undef, undef, undef, .int .i64 0, .bool false] j undef, OnAll.start, rfl, ⟨mn, ⟨hb1.os, hb1.tape, hb1.output, hb1.size, hb1.block⟩⟩, by simp⟩
    · have t1 : decide ((n : Int) ≤ 32) = false := by rw [decide_eq_false_iff_not]; omega
      obtain rfl : ok = false := by
        cases ok with
        | false => rfl
        | true => exact absurd (HOK.out.1 rfl).1 c1
      go_enter Tryz.func62, Tryz.ntmps62
      go_wp2_with fail
      obtain ⟨X, hX⟩ : ∃ X : World, X = w.alloc (.cells #[.int .i64 v] 3) := ⟨_, rfl⟩
      have hb1 : Below w.heap.size w X := by rw [hX]; exact (Below.refl _ _).alloc (Nat.le_refl _) _
      have mn : X.cell? ⟨w.heap.size, 0, none⟩ = some (.int .i64 v) := by subst hX; go_simp
      rw [← hX]
      clear hX d0 HG HOK
      refine wp_region_any (by kernel_rfl) ?_
      refine wpAny_inv (fun l a' w' => ∃ V : Nat → Value, OnAll l V (fun j => List.getD [.int .i64 v, .slice (some ⟨b0, fo, none⟩) n c, .int .i64 n, .bool false, .bool false, undef, undef, .bool false, .bool false, undef, undef, undef, undef, .bool false, .int .i64 v, .bool false] j undef) ∧ a' = ⟨#[.slice (some ⟨b0, fo, none⟩) n c, undef, V 14, V 15, .pointer (some ⟨w.heap.size, 0, none⟩), .slice (some ⟨b0, fo, none⟩) n c, .int .i64 n, .bool false, .slice (some ⟨b0, fo, none⟩) n c, .pointer (some ⟨b0, fo, none⟩), .slice (R 0) v (K 0), .int .i64 v, V 0, V 1, V 2, V 3, V 4, V 5, V 6, V 7, V 8, V 9, V 10, V 11, V 12, V 13], []⟩ ∧ (w'.cell? ⟨w.heap.size, 0, none⟩ = some (.int .i64 v) ∧ Below w.heap.size w w') ∧ l.size = 16) ?_ ?_ _ _ _ _ (by decide) ?_
      · intro l a' W' i hi hI
        obtain ⟨V, hv, rfl, HW, hz⟩ := hI
        obtain ⟨hlt, _, hpre⟩ := ready_pre hi
        have hc : i ∈ [0, 1, 2, 3, 4, 5, 6, 7, 8, 9, 10, 11, 12, 13, 14, 15] := (by decide : ∀ i, i < 16 → i ∈ [0, 1, 2, 3, 4, 5, 6, 7, 8, 9, 10, 11, 12, 13, 14, 15]) i hlt
        simp only [List.mem_cons, List.not_mem_nil, or_false] at hc
        clear hi hlt
        rcases hc with rfl | rfl | rfl | rfl | rfl | rfl | rfl | rfl | rfl | rfl | rfl | rfl | rfl | rfl | rfl | rfl <;> (have hp := hpre _ rfl; simp [Region.binds] at hp; clear hpre)
        · skip
          have HV := Lib.hid hv
          clear hv hp
          have z0 := HW.1
          refine wpOp_go rfl rfl (fun K hK => ?_)
          go_simp
          refine hK _ _ ?_
          exact ⟨_, HV.out.new (x := .int .i64 v) rfl, rfl, HW, by simp [hz]⟩
        · skip
          have HV := Lib.hid hv
          clear hv hp
          refine wpOp_go rfl rfl (fun K hK => ?_)
          go_simp
          refine hK _ _ ?_
          exact ⟨_, HV.out.new (x := .slice (some ⟨b0, fo, none⟩) n c) rfl, rfl, HW, by simp [hz]⟩
        · skip
          have e1 : V 1 = .slice (some ⟨b0, fo, none⟩) n c := hv.get 1 (by simp [hp])
          have HV := Lib.hid (hv.fix e1 rfl)
          clear hv hp
          simp only [e1]
          refine wpOp_go rfl rfl (fun K hK => ?_)
          go_simp
          refine hK _ _ ?_
          exact ⟨_, HV.out.new (x := .int .i64 n) rfl, rfl, HW, by simp [hz]⟩
        · skip
          have e2 : V 2 = .int .i64 n := hv.get 2 (by simp [hp])
          have HV := Lib.hid (hv.fix e2 rfl)
          clear hv hp
          simp only [e2]
          refine wpOp_go rfl rfl (fun K hK => ?_)
          go_simp
          refine hK _ _ ?_
          exact ⟨_, HV.out.new (x := .bool false) rfl, rfl, HW, by simp [hz]⟩
        · skip
          have e3 : V 3 = .bool false := hv.get 3 (by simp [hp])
          have HV := Lib.hid (hv.fix e3 rfl)
          clear hv hp
          simp only [e3]
          refine wpOp_go rfl rfl (fun K hK => ?_)
          go_simp
          refine hK _ _ ?_
          exact ⟨_, HV.out.new (x := .bool false) rfl, rfl, HW, by simp [hz]⟩
        · skip
          have e4 : V 4 = .bool false := hv.get 4 (by simp [hp])
          have HV := Lib.hid (hv.fix e4 rfl)
          clear hv hp
          simp only [e4]
          refine wpOp_sk rfl rfl (fun K hK => ?_)
          refine hK _ _ ?_
          exact ⟨_, HV.out.new (x := undef) rfl, rfl, HW, by simp [hz]⟩
        · skip
          have e4 : V 4 = .bool false := hv.get 4 (by simp [hp])
          have HV := Lib.hid (hv.fix e4 rfl)
          clear hv hp
          simp only [e4]
          refine wpOp_sk rfl rfl (fun K hK => ?_)
          refine hK _ _ ?_
          exact ⟨_, HV.out.new (x := undef) rfl, rfl, HW, by simp [hz]⟩
        · skip
          have e4 : V 4 = .bool false := hv.get 4 (by simp [hp])
          have HV := Lib.hid (hv.fix e4 rfl)
          clear hv hp
          simp only [e4]
          refine wpOp_go rfl rfl (fun K hK => ?_)
          go_simp
          refine hK _ _ ?_
          exact ⟨_, HV.out.new (x := .bool false) rfl, rfl, HW, by simp [hz]⟩
        · skip
          have e7 : V 7 = .bool false := hv.get 7 (by simp [hp])
          have HV := Lib.hid (hv.fix e7 rfl)
          clear hv hp
          simp only [e7]
          refine wpOp_go rfl rfl (fun K hK => ?_)
          go_simp
          refine hK _ _ ?_
          exact ⟨_, HV.out.new (x := .bool false) rfl, rfl, HW, by simp [hz]⟩
        · skip
          have e8 : V 8 = .bool false := hv.get 8 (by simp [hp])
          have HV := Lib.hid (hv.fix e8 rfl)
          clear hv hp
          simp only [e8]
          refine wpOp_sk rfl rfl (fun K hK => ?_)
          refine hK _ _ ?_
          exact ⟨_, HV.out.new (x := undef) rfl, rfl, HW, by simp [hz]⟩
        · skip
          have e8 : V 8 = .bool false := hv.get 8 (by simp [hp])
          have HV := Lib.hid (hv.fix e8 rfl)
          clear hv hp
          simp only [e8]
          refine wpOp_sk rfl rfl (fun K hK => ?_)
          refine hK _ _ ?_
          exact ⟨_, HV.out.new (x := undef) rfl, rfl, HW, by simp [hz]⟩
        · skip
          have e8 : V 8 = .bool false := hv.get 8 (by simp [hp])
          have HV := Lib.hid (hv.fix e8 rfl)
          clear hv hp
          simp only [e8]
          refine wpOp_sk rfl rfl (fun K hK => ?_)
          refine hK _ _ ?_
          exact ⟨_, HV.out.new (x := undef) rfl, rfl, HW, by simp [hz]⟩
        · skip
          have e8 : V 8 = .bool false := hv.get 8 (by simp [hp])
          have HV := Lib.hid (hv.fix e8 rfl)
          clear hv hp
          simp only [e8]
          refine wpOp_sk rfl rfl (fun K hK => ?_)
          refine hK _ _ ?_
          exact ⟨_, HV.out.new (x := undef) rfl, rfl, HW, by simp [hz]⟩
        · skip
          have e8 : V 8 = .bool false := hv.get 8 (by simp [hp])
          have HV := Lib.hid (hv.fix e8 rfl)
          clear hv hp
          simp only [e8]
          refine wpOp_go rfl rfl (fun K hK => ?_)
          go_simp
          refine hK _ _ ?_
          exact ⟨_, HV.out.new (x := .bool false) rfl, rfl, HW, by simp [hz]⟩
        · skip
          have e0 : V 0 = .int .i64 v := hv.get 0 (by simp [hp])
          have HV := Lib.hid (hv.fix e0 rfl)
          clear hv hp
          simp only [e0]
          refine wpOp_go rfl rfl (fun K hK => ?_)
          go_simp
          refine hK _ _ ?_
          exact ⟨_, HV.out.new (x := .int .i64 v) rfl, rfl, HW, by simp [hz]⟩
        · skip
          have e13 : V 13 = .bool false := hv.get 13 (by simp [hp])
          have HV := Lib.hid (hv.fix e13 rfl)
          clear hv hp
          simp only [e13]
          refine wpOp_go rfl rfl (fun K hK => ?_)
          go_simp
          refine hK _ _ ?_
          exact ⟨_, HV.out.new (x := .bool false) rfl, rfl, HW, by simp [hz]⟩
      · intro l a' W' hr hI
        obtain ⟨V, hv, rfl, HW, hz⟩ := hI
        have a0 := not_ready (i := 0) hr hz rfl (by simp [Region.binds])
        have a1 := not_ready (i := 1) hr hz rfl (by simp [Region.binds, a0])
        have a2 := not_ready (i := 2) hr hz rfl (by simp [Region.binds, a0, a1])
        have a3 := not_ready (i := 3) hr hz rfl (by simp [Region.binds, a0, a1, a2])
        have a4 := not_ready (i := 4) hr hz rfl (by simp [Region.binds, a0, a1, a2, a3])
        have a5 := not_ready (i := 5) hr hz rfl (by simp [Region.binds, a0, a1, a2, a3, a4])
        have a6 := not_ready (i := 6) hr hz rfl (by simp [Region.binds, a0, a1, a2, a3, a4, a5])
        have a7 := not_ready (i := 7) hr hz rfl (by simp [Region.binds, a0, a1, a2, a3, a4, a5, a6])
        have a8 := not_ready (i := 8) hr hz rfl (by simp [Region.binds, a0, a1, a2, a3, a4, a5, a6, a7])
        have a9 := not_ready (i := 9) hr hz rfl (by simp [Region.binds, a0, a1, a2, a3, a4, a5, a6, a7, a8])
        have a10 := not_ready (i := 10) hr hz rfl (by simp [Region.binds, a0, a1, a2, a3, a4, a5, a6, a7, a8, a9])
        have a11 := not_ready (i := 11) hr hz rfl (by simp [Region.binds, a0, a1, a2, a3, a4, a5, a6, a7, a8, a9, a10])
        have a12 := not_ready (i := 12) hr hz rfl (by simp [Region.binds, a0, a1, a2, a3, a4, a5, a6, a7, a8, a9, a10, a11])
        have a13 := not_ready (i := 13) hr hz rfl (by simp [Region.binds, a0, a1, a2, a3, a4, a5, a6, a7, a8, a9, a10, a11, a12])
        have a14 := not_ready (i := 14) hr hz rfl (by simp [Region.binds, a0, a1, a2, a3, a4, a5, a6, a7, a8, a9, a10, a11, a12, a13])
        have a15 := not_ready (i := 15) hr hz rfl (by simp [Region.binds, a0, a1, a2, a3, a4, a5, a6, a7, a8, a9, a10, a11, a12, a13, a14])
        clear hr
        have e14 : V 14 = .int .i64 v := hv.get 14 a14
        have e15 : V 15 = .bool false := hv.get 15 a15
        simp only [e14, e15]
        clear hv a0 a1 a2 a3 a4 a5 a6 a7 a8 a9 a10 a11 a12 a13 a14 a15
        go_wp2_with fail
        exact bodyPost_ret (v := .tuple #[.int .i64 v, .bool false]) (by simp [results, Tryz.results62, go_sem]) rfl ⟨rfl, HW.2⟩
      · exact ⟨fun j => List.getD [undef, undef, undef, undef, undef, undef, undef, undef, undef, undef, undef, undef, undef, undef, .int .i64 0, .bool false] j undef, OnAll.start, rfl, ⟨mn, ⟨hb1.os, hb1.tape, hb1.output, hb1.size, hb1.block⟩⟩, by simp⟩
end Go.Proofs.YtdpjknjlhchmcaaGreat

namespace Go.Proofs.YtdpjknjlhchmcaaGreat
open Go.RowKit Pl
set_option linter.unusedVariables false
set_option linter.unusedSimpArgs false
set_option maxHeartbeats 4000000 in
theorem rcolumns_any (w : World) (A : Option Addr) (n c : Nat) (R : Nat → Option Addr) (N C : Nat → Nat) (hG : Grid w A n R N C) (hn : n ≤ 1000) :
    Calls Tryz.prog 63 #[.slice A n c] w fun e w' => e = .returned (.int .i64 (colN n N : Nat)) ∧ Below w.heap.size w w' := by
  by_cases h0 : n = 0
  · have t0 : ((n : Int) == 0) = true := by simpa using h0
    have e0 : colN n N = 0 := by unfold colN; rw [if_pos h0]
    rw [e0]
    clear h0 hG e0
    go_enter Tryz.func63, Tryz.ntmps63
    go_wp2_with fail
    go_ret
    exact ⟨rfl, Below.refl _ _⟩
  · have t0 : ((n : Int) == 0) = false := by simpa using h0
    have e0 : colN n N = N 0 := by unfold colN; rw [if_neg h0]
    rw [e0]
    obtain ⟨b, fo, rfl, hl, d0⟩ := hG 0 (by omega)
    rw [Nat.add_zero] at d0
    clear e0 hG
    have h1 : 0 < n := by omega
    go_enter Tryz.func63, Tryz.ntmps63
    go_wp2_with fail
    go_ret
    exact ⟨rfl, Below.refl _ _⟩
set_option maxRecDepth 100000 in
set_option maxHeartbeats 4000000 in
theorem rvalid_any (w : World) (A : Option Addr) (n c : Nat) (R : Nat → Option Addr) (N C : Nat → Nat) (hG : Grid w A n R N C) (hn : n ≤ 1000) (hN : ∀ i, i < n → N i ≤ 1000) (ok : Bool) (hok : ok = true ↔ Valid n N) :
    Calls Tryz.prog 51 #[.slice A n c] w (RetBool w ok) := by
  by_cases h0 : 32 < n
  · have t0 : decide ((32 : Int) < n) = true := by rw [decide_eq_true_eq]; omega
    obtain rfl : ok = false := by
      cases ok with
      | false => rfl
      | true => rcases hok.1 rfl with h | ⟨h, _⟩ <;> omega
    clear h0 hG hN hok
    go_enter Tryz.func51, Tryz.ntmps51
    go_wp2_with fail
    go_ret
    exact ⟨rfl, Below.refl _ _⟩
  · have t0 : decide ((32 : Int) < n) = false := by rw [decide_eq_false_iff_not]; omega
    have hn32 : n ≤ 32 := by omega
    have HOK := Lib.hid hok; have HN := Lib.hid hN
    clear h0 hok hN
    go_enter Tryz.func51, Tryz.ntmps51
    go_wp2_with fail
    go_loopw [3] (fun i (wr : World) => ∃ k : Nat, k ≤ n ∧ i = .int .i64 k ∧ (∀ j, j < k → N j = N 0 ∧ N j ≤ 32) ∧ Below w.heap.size w wr) (fun i _ => n - (intOf i).toNat)
    case atStart => exact ⟨0, Nat.zero_le _, rfl, fun j hj => absurd hj (by omega), Below.refl _ _⟩
    case round =>
      obtain ⟨k, hk, rfl, hall, hB⟩ := hrel
      have HA := Lib.hid hall
      clear hall
      by_cases hlt : k < n
      · have hNk := HN.out k hlt
        have hN0 := HN.out 0 (by omega)
        obtain ⟨b, fo, rfl, hl, d0⟩ := hG k hlt
        obtain ⟨b1, fo1, e1, hl1, d1⟩ := hG 0 (by omega)
        injection e1 with e1; injection e1 with e1 e2; subst e1 e2
        rw [Nat.add_zero] at d1
        have c0 := (hB.cell (p := ⟨b, _, none⟩) hl).trans d0
        have c1 := (hB.cell (p := ⟨b, _, none⟩) hl).trans d1
        have HG := Lib.hid hG
        have i1 : (0 : Int) ≤ (k : Int) := by omega
        have i2 : (k : Int) < (n : Int) := by omega
        have i3 : 0 < n := by omega
        have hHW : wr.cell? ⟨b, fo + k, none⟩ = some (.slice (R k) (N k) (C k)) ∧ wr.cell? ⟨b, fo, none⟩ = some (.slice (R 0) (N 0) (C 0)) ∧ Below w.heap.size w wr := ⟨c0, c1, hB⟩
        clear d0 d1 c0 c1 hB hl1 hl
        by_cases hv : N k = N 0
        · have t1 : ((N k : Int) != (N 0 : Int)) = false := by rw [bne_eq_false_iff_eq]; omega
          obtain ⟨b2, hb2⟩ : ∃ b, decide ((32 : Int) < (N k : Int)) = b := ⟨_, rfl⟩
          have HV := Lib.hid hv; have HB2 := Lib.hid hb2
          clear hv hb2
          go_upto_region 6 with fail
          refine wp_region_any (by kernel_rfl) ?_
          refine wpAny_inv (fun l a' w' => ∃ V : Nat → Value, OnAll l V (fun zz => List.getD [.slice (some ⟨b, fo, none⟩) n c, .int .i64 k, .pointer (some ⟨b, fo + k, none⟩), .slice (R k) (N k) (C k), .int .i64 (N k), .slice (some ⟨b, fo, none⟩) n c, .pointer (some ⟨b, fo, none⟩), .slice (R 0) (N 0) (C 0), .int .i64 (N 0), .bool false, .bool false, .slice (some ⟨b, fo, none⟩) n c, .int .i64 k, .pointer (some ⟨b, fo + k, none⟩), .slice (R k) (N k) (C k), .int .i64 (N k), .bool b2, .bool b2] zz undef) ∧ a' = ⟨#[.slice (some ⟨b, fo, none⟩) n c, undef, u2, .int .i64 k, .slice (some ⟨b, fo, none⟩) n c, .int .i64 n, .bool false, .int .i64 k, .slice (some ⟨b, fo, none⟩) n c, .int .i64 n, .bool true, u11, u12, V 0, V 1, V 2, V 3, V 4, V 5, V 6, V 7, V 8, V 9, V 10, V 11, V 12, V 13, V 14, V 15, V 16, V 17], []⟩ ∧ (w'.cell? ⟨b, fo + k, none⟩ = some (.slice (R k) (N k) (C k)) ∧ w'.cell? ⟨b, fo, none⟩ = some (.slice (R 0) (N 0) (C 0)) ∧ Below w.heap.size w w') ∧ l.size = 18) ?_ ?_ _ _ _ _ (by decide) ?_
          · intro l a' W' i hi hI
            obtain ⟨V, hv, rfl, HW, hz⟩ := hI
            obtain ⟨hlt, _, hpre⟩ := ready_pre hi
            have hc : i ∈ [0, 1, 2, 3, 4, 5, 6, 7, 8, 9, 10, 11, 12, 13, 14, 15, 16, 17] := (by decide : ∀ i, i < 18 → i ∈ [0, 1, 2, 3, 4, 5, 6, 7, 8, 9, 10, 11, 12, 13, 14, 15, 16, 17]) i hlt
            simp only [List.mem_cons, List.not_mem_nil, or_false] at hc
            clear hi hlt
            rcases hc with rfl | rfl | rfl | rfl | rfl | rfl | rfl | rfl | rfl | rfl | rfl | rfl | rfl | rfl | rfl | rfl | rfl | rfl <;> (have hp := hpre _ rfl; simp [Region.binds] at hp; clear hpre)
            · skip
              have HV := Lib.hid hv
              clear hv hp
              refine wpOp_go rfl rfl (fun K hK => ?_)
              go_simp
              refine hK _ _ ?_
              exact ⟨_, HV.out.new (x := .slice (some ⟨b, fo, none⟩) n c) rfl, rfl, HW, by simp [hz]⟩
            · skip
              have HV := Lib.hid hv
              clear hv hp
              refine wpOp_go rfl rfl (fun K hK => ?_)
              go_simp
              refine hK _ _ ?_
              exact ⟨_, HV.out.new (x := .int .i64 k) rfl, rfl, HW, by simp [hz]⟩
            · skip
              have e0 : V 0 = .slice (some ⟨b, fo, none⟩) n c := hv.get 0 (by simp [hp])
              have e1 : V 1 = .int .i64 k := hv.get 1 (by simp [hp])
              have HV := Lib.hid ((hv.fix e0 rfl).fix (i := 1) (x := .int .i64 k) e1 rfl)
              clear hv hp
              simp only [e0, e1]
              refine wpOp_go rfl rfl (fun K hK => ?_)
              go_simp
              refine hK _ _ ?_
              exact ⟨_, HV.out.new (x := .pointer (some ⟨b, fo + k, none⟩)) rfl, rfl, HW, by simp [hz]⟩
            · skip
              have e2 : V 2 = .pointer (some ⟨b, fo + k, none⟩) := hv.get 2 (by simp [hp])
              have HV := Lib.hid (hv.fix e2 rfl)
              clear hv hp
              simp only [e2]
              have z0 := HW.1; have z1 := HW.2.1
              refine wpOp_go rfl rfl (fun K hK => ?_)
              go_simp
              refine hK _ _ ?_
              exact ⟨_, HV.out.new (x := .slice (R k) (N k) (C k)) rfl, rfl, HW, by simp [hz]⟩
            · skip
              have e3 : V 3 = .slice (R k) (N k) (C k) := hv.get 3 (by simp [hp])
              have HV := Lib.hid (hv.fix e3 rfl)
              clear hv hp
              simp only [e3]
              refine wpOp_go rfl rfl (fun K hK => ?_)
              go_simp
              refine hK _ _ ?_
              exact ⟨_, HV.out.new (x := .int .i64 (N k)) rfl, rfl, HW, by simp [hz]⟩
            · skip
              have HV := Lib.hid hv
              clear hv hp
              refine wpOp_go rfl rfl (fun K hK => ?_)
              go_simp
              refine hK _ _ ?_
              exact ⟨_, HV.out.new (x := .slice (some ⟨b, fo, none⟩) n c) rfl, rfl, HW, by simp [hz]⟩
            · skip
              have e5 : V 5 = .slice (some ⟨b, fo, none⟩) n c := hv.get 5 (by simp [hp])
              have HV := Lib.hid (hv.fix e5 rfl)
              clear hv hp
              simp only [e5]
              refine wpOp_go rfl rfl (fun K hK => ?_)
              go_simp
              refine hK _ _ ?_
              exact ⟨_, HV.out.new (x := .pointer (some ⟨b, fo, none⟩)) rfl, rfl, HW, by simp [hz]⟩
            · skip
              have e6 : V 6 = .pointer (some ⟨b, fo, none⟩) := hv.get 6 (by simp [hp])
              have HV := Lib.hid (hv.fix e6 rfl)
              clear hv hp
              simp only [e6]
              have z0 := HW.1; have z1 := HW.2.1
              refine wpOp_go rfl rfl (fun K hK => ?_)
              go_simp
              refine hK _ _ ?_
              exact ⟨_, HV.out.new (x := .slice (R 0) (N 0) (C 0)) rfl, rfl, HW, by simp [hz]⟩
            · skip
              have e7 : V 7 = .slice (R 0) (N 0) (C 0) := hv.get 7 (by simp [hp])
              have HV := Lib.hid (hv.fix e7 rfl)
              clear hv hp
              simp only [e7]
              refine wpOp_go rfl rfl (fun K hK => ?_)
              go_simp
              refine hK _ _ ?_
              exact ⟨_, HV.out.new (x := .int .i64 (N 0)) rfl, rfl, HW, by simp [hz]⟩
            · skip
              have e4 : V 4 = .int .i64 (N k) := hv.get 4 (by simp [hp])
              have e8 : V 8 = .int .i64 (N 0) := hv.get 8 (by simp [hp])
              have HV := Lib.hid ((hv.fix e4 rfl).fix (i := 8) (x := .int .i64 (N 0)) e8 rfl)
              clear hv hp
              simp only [e4, e8]
              refine wpOp_go rfl rfl (fun K hK => ?_)
              go_simp
              refine hK _ _ ?_
              exact ⟨_, HV.out.new (x := .bool false) rfl, rfl, HW, by simp [hz]⟩
            · skip
              have e9 : V 9 = .bool false := hv.get 9 (by simp [hp])
              have HV := Lib.hid (hv.fix e9 rfl)
              clear hv hp
              simp only [e9]
              refine wpOp_go rfl rfl (fun K hK => ?_)
              go_simp
              refine hK _ _ ?_
              exact ⟨_, HV.out.new (x := .bool false) rfl, rfl, HW, by simp [hz]⟩
            · skip
              have e10 : V 10 = .bool false := hv.get 10 (by simp [hp])
              have HV := Lib.hid (hv.fix e10 rfl)
              clear hv hp
              simp only [e10]
              refine wpOp_gg rfl rfl (fun K hK => ?_)
              go_simp
              refine hK _ _ ?_
              exact ⟨_, HV.out.new (x := .slice (some ⟨b, fo, none⟩) n c) rfl, rfl, HW, by simp [hz]⟩
            · skip
              have e10 : V 10 = .bool false := hv.get 10 (by simp [hp])
              have HV := Lib.hid (hv.fix e10 rfl)
              clear hv hp
              simp only [e10]
              refine wpOp_gg rfl rfl (fun K hK => ?_)
              go_simp
              refine hK _ _ ?_
              exact ⟨_, HV.out.new (x := .int .i64 k) rfl, rfl, HW, by simp [hz]⟩
            · skip
              have e11 : V 11 = .slice (some ⟨b, fo, none⟩) n c := hv.get 11 (by simp [hp])
              have e12 : V 12 = .int .i64 k := hv.get 12 (by simp [hp])
              have e10 : V 10 = .bool false := hv.get 10 (by simp [hp])
              have HV := Lib.hid (((hv.fix e11 rfl).fix (i := 12) (x := .int .i64 k) e12 rfl).fix (i := 10) (x := .bool false) e10 rfl)
              clear hv hp
              simp only [e11, e12, e10]
              refine wpOp_gg rfl rfl (fun K hK => ?_)
              go_simp
              refine hK _ _ ?_
              exact ⟨_, HV.out.new (x := .pointer (some ⟨b, fo + k, none⟩)) rfl, rfl, HW, by simp [hz]⟩
            · skip
              have e13 : V 13 = .pointer (some ⟨b, fo + k, none⟩) := hv.get 13 (by simp [hp])
              have e10 : V 10 = .bool false := hv.get 10 (by simp [hp])
              have HV := Lib.hid ((hv.fix e13 rfl).fix (i := 10) (x := .bool false) e10 rfl)
              clear hv hp
              simp only [e13, e10]
              have z0 := HW.1; have z1 := HW.2.1
              refine wpOp_gg rfl rfl (fun K hK => ?_)
              go_simp
              refine hK _ _ ?_
              exact ⟨_, HV.out.new (x := .slice (R k) (N k) (C k)) rfl, rfl, HW, by simp [hz]⟩
            · skip
              have e14 : V 14 = .slice (R k) (N k) (C k) := hv.get 14 (by simp [hp])
              have e10 : V 10 = .bool false := hv.get 10 (by simp [hp])
              have HV := Lib.hid ((hv.fix e14 rfl).fix (i := 10) (x := .bool false) e10 rfl)
              clear hv hp
              simp only [e14, e10]
              refine wpOp_gg rfl rfl (fun K hK => ?_)
              go_simp
              refine hK _ _ ?_
              exact ⟨_, HV.out.new (x := .int .i64 (N k)) rfl, rfl, HW, by simp [hz]⟩
            · skip
              have e15 : V 15 = .int .i64 (N k) := hv.get 15 (by simp [hp])
              have e10 : V 10 = .bool false := hv.get 10 (by simp [hp])
              have HV := Lib.hid ((hv.fix e15 rfl).fix (i := 10) (x := .bool false) e10 rfl)
              clear hv hp
              simp only [e15, e10]
              have tb := HB2.out
              refine wpOp_gg rfl rfl (fun K hK => ?_)
              go_simp
              refine hK _ _ ?_
              exact ⟨_, HV.out.new (x := .bool b2) rfl, rfl, HW, by simp [hz]⟩
            · skip
              have e10 : V 10 = .bool false := hv.get 10 (by simp [hp])
              have e16 : V 16 = .bool b2 := hv.get 16 (by simp [hp])
              have HV := Lib.hid ((hv.fix e10 rfl).fix (i := 16) (x := .bool b2) e16 rfl)
              clear hv hp
              simp only [e10, e16]
              refine wpOp_go rfl rfl (fun K hK => ?_)
              go_simp
              refine hK _ _ ?_
              exact ⟨_, HV.out.new (x := .bool b2) rfl, rfl, HW, by simp [hz]⟩
          · intro l a' W' hr hI
            obtain ⟨V, hv, rfl, HW, hz⟩ := hI
            have a0 := not_ready (i := 0) hr hz rfl (by simp [Region.binds])
            have a1 := not_ready (i := 1) hr hz rfl (by simp [Region.binds, a0])
            have a2 := not_ready (i := 2) hr hz rfl (by simp [Region.binds, a0, a1])
            have a3 := not_ready (i := 3) hr hz rfl (by simp [Region.binds, a0, a1, a2])
            have a4 := not_ready (i := 4) hr hz rfl (by simp [Region.binds, a0, a1, a2, a3])
            have a5 := not_ready (i := 5) hr hz rfl (by simp [Region.binds, a0, a1, a2, a3, a4])
            have a6 := not_ready (i := 6) hr hz rfl (by simp [Region.binds, a0, a1, a2, a3, a4, a5])
            have a7 := not_ready (i := 7) hr hz rfl (by simp [Region.binds, a0, a1, a2, a3, a4, a5, a6])
            have a8 := not_ready (i := 8) hr hz rfl (by simp [Region.binds, a0, a1, a2, a3, a4, a5, a6, a7])
            have a9 := not_ready (i := 9) hr hz rfl (by simp [Region.binds, a0, a1, a2, a3, a4, a5, a6, a7, a8])
            have a10 := not_ready (i := 10) hr hz rfl (by simp [Region.binds, a0, a1, a2, a3, a4, a5, a6, a7, a8, a9])
            have a11 := not_ready (i := 11) hr hz rfl (by simp [Region.binds, a0, a1, a2, a3, a4, a5, a6, a7, a8, a9, a10])
            have a12 := not_ready (i := 12) hr hz rfl (by simp [Region.binds, a0, a1, a2, a3, a4, a5, a6, a7, a8, a9, a10, a11])
            have a13 := not_ready (i := 13) hr hz rfl (by simp [Region.binds, a0, a1, a2, a3, a4, a5, a6, a7, a8, a9, a10, a11, a12])
            have a14 := not_ready (i := 14) hr hz rfl (by simp [Region.binds, a0, a1, a2, a3, a4, a5, a6, a7, a8, a9, a10, a11, a12, a13])
            have a15 := not_ready (i := 15) hr hz rfl (by simp [Region.binds, a0, a1, a2, a3, a4, a5, a6, a7, a8, a9, a10, a11, a12, a13, a14])
            have a16 := not_ready (i := 16) hr hz rfl (by simp [Region.binds, a0, a1, a2, a3, a4, a5, a6, a7, a8, a9, a10, a11, a12, a13, a14, a15])
            have a17 := not_ready (i := 17) hr hz rfl (by simp [Region.binds, a0, a1, a2, a3, a4, a5, a6, a7, a8, a9, a10, a11, a12, a13, a14, a15, a16])
            clear hr
            have e17 : V 17 = .bool b2 := hv.get 17 a17
            simp only [e17]
            clear hv hz a0 a1 a2 a3 a4 a5 a6 a7 a8 a9 a10 a11 a12 a13 a14 a15 a16 a17
            have hB := HW.2.2
            clear HW hHW
            cases b2 with
            | true =>
              have h32 := HB2.out
              rw [decide_eq_true_eq] at h32
              obtain rfl : ok = false := by
                cases ok with
                | false => rfl
                | true =>
                  rcases HOK.out.1 rfl with h | ⟨_, h1, h⟩
                  · omega
                  · have := h k hlt; omega
              clear h32
              go_wp2_with fail
              go_ret
              exact ⟨rfl, hB⟩
            | false =>
              have h32 := HB2.out
              rw [decide_eq_false_iff_not] at h32
              have H32 := Lib.hid h32
              clear h32
              go_wp2_with fail
              go_roundw
              case rel => exact ⟨k + 1, by omega, by go_num, fun j hj => by
                by_cases e : j = k
                · subst e; exact ⟨HV.out, by have := H32.out; omega⟩
                · exact HA.out j (by omega), hB⟩
              case measure => simp [intOf]; omega
          · exact ⟨fun zz => List.getD [u13, u14, u15, u16, u17, u18, u19, u20, u21, u22, u23, u24, u25, u26, u27, u28, u29, u30] zz undef, OnAll.start, rfl, ⟨hHW.1, hHW.2.1, ⟨hHW.2.2.os, hHW.2.2.tape, hHW.2.2.output, hHW.2.2.size, hHW.2.2.block⟩⟩, by simp⟩
        · have t1 : ((N k : Int) != (N 0 : Int)) = true := by rw [bne_iff_ne]; omega
          have HV := Lib.hid hv
          clear hv
          go_upto_region 6 with fail
          refine wp_region_any (by kernel_rfl) ?_
          refine wpAny_inv (fun l a' w' => ∃ V : Nat → Value, OnAll l V (fun zz => List.getD [.slice (some ⟨b, fo, none⟩) n c, .int .i64 k, .pointer (some ⟨b, fo + k, none⟩), .slice (R k) (N k) (C k), .int .i64 (N k), .slice (some ⟨b, fo, none⟩) n c, .pointer (some ⟨b, fo, none⟩), .slice (R 0) (N 0) (C 0), .int .i64 (N 0), .bool true, .bool true, undef, undef, undef, undef, undef, undef, .bool true] zz undef) ∧ a' = ⟨#[.slice (some ⟨b, fo, none⟩) n c, undef, u2, .int .i64 k, .slice (some ⟨b, fo, none⟩) n c, .int .i64 n, .bool false, .int .i64 k, .slice (some ⟨b, fo, none⟩) n c, .int .i64 n, .bool true, u11, u12, V 0, V 1, V 2, V 3, V 4, V 5, V 6, V 7, V 8, V 9, V 10, V 11, V 12, V 13, V 14, V 15, V 16, V 17], []⟩ ∧ (w'.cell? ⟨b, fo + k, none⟩ = some (.slice (R k) (N k) (C k)) ∧ w'.cell? ⟨b, fo, none⟩ = some (.slice (R 0) (N 0) (C 0)) ∧ Below w.heap.size w w') ∧ l.size = 18) ?_ ?_ _ _ _ _ (by decide) ?_
          · intro l a' W' i hi hI
            obtain ⟨V, hv, rfl, HW, hz⟩ := hI
            obtain ⟨hlt, _, hpre⟩ := ready_pre hi
            have hc : i ∈ [0, 1, 2, 3, 4, 5, 6, 7, 8, 9, 10, 11, 12, 13, 14, 15, 16, 17] := (by decide : ∀ i, i < 18 → i ∈ [0, 1, 2, 3, 4, 5, 6, 7, 8, 9, 10, 11, 12, 13, 14, 15, 16, 17]) i hlt
            simp only [List.mem_cons, List.not_mem_nil, or_false] at hc
            clear hi hlt
            rcases hc with rfl | rfl | rfl | rfl | rfl | rfl | rfl | rfl | rfl | rfl | rfl | rfl | rfl | rfl | rfl | rfl | rfl | rfl <;> (have hp := hpre _ rfl; simp [Region.binds] at hp; clear hpre)
            · skip
              have HV := Lib.hid hv
              clear hv hp
              refine wpOp_go rfl rfl (fun K hK => ?_)
              go_simp
              refine hK _ _ ?_
              exact ⟨_, HV.out.new (x := .slice (some ⟨b, fo, none⟩) n c) rfl, rfl, HW, by simp [hz]⟩
            · skip
              have HV := Lib.hid hv
              clear hv hp
              refine wpOp_go rfl rfl (fun K hK => ?_)
              go_simp
              refine hK _ _ ?_
              exact ⟨_, HV.out.new (x := .int .i64 k) rfl, rfl, HW, by simp [hz]⟩
            · skip
              have e0 : V 0 = .slice (some ⟨b, fo, none⟩) n c := hv.get 0 (by simp [hp])
              have e1 : V 1 = .int .i64 k := hv.get 1 (by simp [hp])
              have HV := Lib.hid ((hv.fix e0 rfl).fix (i := 1) (x := .int .i64 k) e1 rfl)
              clear hv hp
              simp only [e0, e1]
              refine wpOp_go rfl rfl (fun K hK => ?_)
              go_simp
              refine hK _ _ ?_
              exact ⟨_, HV.out.new (x := .pointer (some ⟨b, fo + k, none⟩)) rfl, rfl, HW, by simp [hz]⟩
            · skip
              have e2 : V 2 = .pointer (some ⟨b, fo + k, none⟩) := hv.get 2 (by simp [hp])
              have HV := Lib.hid (hv.fix e2 rfl)
              clear hv hp
              simp only [e2]
              have z0 := HW.1; have z1 := HW.2.1
              refine wpOp_go rfl rfl (fun K hK => ?_)
              go_simp
              refine hK _ _ ?_
              exact ⟨_, HV.out.new (x := .slice (R k) (N k) (C k)) rfl, rfl, HW, by simp [hz]⟩
            · skip
              have e3 : V 3 = .slice (R k) (N k) (C k) := hv.get 3 (by simp [hp])
              have HV := Lib.hid (hv.fix e3 rfl)
              clear hv hp
              simp only [e3]
              refine wpOp_go rfl rfl (fun K hK => ?_)
              go_simp
              refine hK _ _ ?_
              exact ⟨_, HV.out.new (x := .int .i64 (N k)) rfl, rfl, HW, by simp [hz]⟩
            · skip
              have HV := Lib.hid hv
              clear hv hp
              refine wpOp_go rfl rfl (fun K hK => ?_)
              go_simp
              refine hK _ _ ?_
              exact ⟨_, HV.out.new (x := .slice (some ⟨b, fo, none⟩) n c) rfl, rfl, HW, by simp [hz]⟩
            · skip
              have e5 : V 5 = .slice (some ⟨b, fo, none⟩) n c := hv.get 5 (by simp [hp])
              have HV := Lib.hid (hv.fix e5 rfl)
              clear hv hp
              simp only [e5]
              refine wpOp_go rfl rfl (fun K hK => ?_)
              go_simp
              refine hK _ _ ?_
              exact ⟨_, HV.out.new (x := .pointer (some ⟨b, fo, none⟩)) rfl, rfl, HW, by simp [hz]⟩
            · skip
              have e6 : V 6 = .pointer (some ⟨b, fo, none⟩) := hv.get 6 (by simp [hp])
              have HV := Lib.hid (hv.fix e6 rfl)
              clear hv hp
              simp only [e6]
              have z0 := HW.1; have z1 := HW.2.1
              refine wpOp_go rfl rfl (fun K hK => ?_)
              go_simp
              refine hK _ _ ?_
              exact ⟨_, HV.out.new (x := .slice (R 0) (N 0) (C 0)) rfl, rfl, HW, by simp [hz]⟩
            · skip
              have e7 : V 7 = .slice (R 0) (N 0) (C 0) := hv.get 7 (by simp [hp])
              have HV := Lib.hid (hv.fix e7 rfl)
              clear hv hp
              simp only [e7]
              refine wpOp_go rfl rfl (fun K hK => ?_)
              go_simp
              refine hK _ _ ?_
              exact ⟨_, HV.out.new (x := .int .i64 (N 0)) rfl, rfl, HW, by simp [hz]⟩
            · skip
              have e4 : V 4 = .int .i64 (N k) := hv.get 4 (by simp [hp])
              have e8 : V 8 = .int .i64 (N 0) := hv.get 8 (by simp [hp])
              have HV := Lib.hid ((hv.fix e4 rfl).fix (i := 8) (x := .int .i64 (N 0)) e8 rfl)
              clear hv hp
              simp only [e4, e8]
              refine wpOp_go rfl rfl (fun K hK => ?_)
              go_simp
              refine hK _ _ ?_
              exact ⟨_, HV.out.new (x := .bool true) rfl, rfl, HW, by simp [hz]⟩
            · skip
              have e9 : V 9 = .bool true := hv.get 9 (by simp [hp])
              have HV := Lib.hid (hv.fix e9 rfl)
              clear hv hp
              simp only [e9]
              refine wpOp_go rfl rfl (fun K hK => ?_)
              go_simp
              refine hK _ _ ?_
              exact ⟨_, HV.out.new (x := .bool true) rfl, rfl, HW, by simp [hz]⟩
            · skip
              have e10 : V 10 = .bool true := hv.get 10 (by simp [hp])
              have HV := Lib.hid (hv.fix e10 rfl)
              clear hv hp
              simp only [e10]
              refine wpOp_sk rfl rfl (fun K hK => ?_)
              refine hK _ _ ?_
              exact ⟨_, HV.out.new (x := undef) rfl, rfl, HW, by simp [hz]⟩
            · skip
              have e10 : V 10 = .bool true := hv.get 10 (by simp [hp])
              have HV := Lib.hid (hv.fix e10 rfl)
              clear hv hp
              simp only [e10]
              refine wpOp_sk rfl rfl (fun K hK => ?_)
              refine hK _ _ ?_
              exact ⟨_, HV.out.new (x := undef) rfl, rfl, HW, by simp [hz]⟩
            · skip
              have e10 : V 10 = .bool true := hv.get 10 (by simp [hp])
              have HV := Lib.hid (hv.fix e10 rfl)
              clear hv hp
              simp only [e10]
              refine wpOp_sk rfl rfl (fun K hK => ?_)
              refine hK _ _ ?_
              exact ⟨_, HV.out.new (x := undef) rfl, rfl, HW, by simp [hz]⟩
            · skip
              have e10 : V 10 = .bool true := hv.get 10 (by simp [hp])
              have HV := Lib.hid (hv.fix e10 rfl)
              clear hv hp
              simp only [e10]
              refine wpOp_sk rfl rfl (fun K hK => ?_)
              refine hK _ _ ?_
              exact ⟨_, HV.out.new (x := undef) rfl, rfl, HW, by simp [hz]⟩
            · skip
              have e10 : V 10 = .bool true := hv.get 10 (by simp [hp])
              have HV := Lib.hid (hv.fix e10 rfl)
              clear hv hp
              simp only [e10]
              refine wpOp_sk rfl rfl (fun K hK => ?_)
              refine hK _ _ ?_
              exact ⟨_, HV.out.new (x := undef) rfl, rfl, HW, by simp [hz]⟩
            · skip
              have e10 : V 10 = .bool true := hv.get 10 (by simp [hp])
              have HV := Lib.hid (hv.fix e10 rfl)
              clear hv hp
              simp only [e10]
              refine wpOp_sk rfl rfl (fun K hK => ?_)
              refine hK _ _ ?_
              exact ⟨_, HV.out.new (x := undef) rfl, rfl, HW, by simp [hz]⟩
            · skip
              have e10 : V 10 = .bool true := hv.get 10 (by simp [hp])
              have HV := Lib.hid (hv.fix e10 rfl)
              clear hv hp
              simp only [e10]
              refine wpOp_go rfl rfl (fun K hK => ?_)
              go_simp
              refine hK _ _ ?_
              exact ⟨_, HV.out.new (x := .bool true) rfl, rfl, HW, by simp [hz]⟩
          · intro l a' W' hr hI
            obtain ⟨V, hv, rfl, HW, hz⟩ := hI
            have a0 := not_ready (i := 0) hr hz rfl (by simp [Region.binds])
            have a1 := not_ready (i := 1) hr hz rfl (by simp [Region.binds, a0])
            have a2 := not_ready (i := 2) hr hz rfl (by simp [Region.binds, a0, a1])
            have a3 := not_ready (i := 3) hr hz rfl (by simp [Region.binds, a0, a1, a2])
            have a4 := not_ready (i := 4) hr hz rfl (by simp [Region.binds, a0, a1, a2, a3])
            have a5 := not_ready (i := 5) hr hz rfl (by simp [Region.binds, a0, a1, a2, a3, a4])
            have a6 := not_ready (i := 6) hr hz rfl (by simp [Region.binds, a0, a1, a2, a3, a4, a5])
            have a7 := not_ready (i := 7) hr hz rfl (by simp [Region.binds, a0, a1, a2, a3, a4, a5, a6])
            have a8 := not_ready (i := 8) hr hz rfl (by simp [Region.binds, a0, a1, a2, a3, a4, a5, a6, a7])
            have a9 := not_ready (i := 9) hr hz rfl (by simp [Region.binds, a0, a1, a2, a3, a4, a5, a6, a7, a8])
            have a10 := not_ready (i := 10) hr hz rfl (by simp [Region.binds, a0, a1, a2, a3, a4, a5, a6, a7, a8, a9])
            have a11 := not_ready (i := 11) hr hz rfl (by simp [Region.binds, a0, a1, a2, a3, a4, a5, a6, a7, a8, a9, a10])
            have a12 := not_ready (i := 12) hr hz rfl (by simp [Region.binds, a0, a1, a2, a3, a4, a5, a6, a7, a8, a9, a10, a11])
            have a13 := not_ready (i := 13) hr hz rfl (by simp [Region.binds, a0, a1, a2, a3, a4, a5, a6, a7, a8, a9, a10, a11, a12])
            have a14 := not_ready (i := 14) hr hz rfl (by simp [Region.binds, a0, a1, a2, a3, a4, a5, a6, a7, a8, a9, a10, a11, a12, a13])
            have a15 := not_ready (i := 15) hr hz rfl (by simp [Region.binds, a0, a1, a2, a3, a4, a5, a6, a7, a8, a9, a10, a11, a12, a13, a14])
            have a16 := not_ready (i := 16) hr hz rfl (by simp [Region.binds, a0, a1, a2, a3, a4, a5, a6, a7, a8, a9, a10, a11, a12, a13, a14, a15])
            have a17 := not_ready (i := 17) hr hz rfl (by simp [Region.binds, a0, a1, a2, a3, a4, a5, a6, a7, a8, a9, a10, a11, a12, a13, a14, a15, a16])
            clear hr
            have e17 : V 17 = .bool true := hv.get 17 a17
            simp only [e17]
            clear hv hz a0 a1 a2 a3 a4 a5 a6 a7 a8 a9 a10 a11 a12 a13 a14 a15 a16 a17
            obtain rfl : ok = false := by
              cases ok with
              | false => rfl
              | true =>
                rcases HOK.out.1 rfl with h | ⟨_, _, h⟩
                · omega
                · exact absurd (h k hlt) HV.out
            go_wp2_with fail
            go_ret
            exact ⟨rfl, HW.2.2⟩
          · exact ⟨fun zz => List.getD [u13, u14, u15, u16, u17, u18, u19, u20, u21, u22, u23, u24, u25, u26, u27, u28, u29, u30] zz undef, OnAll.start, rfl, ⟨hHW.1, hHW.2.1, ⟨hHW.2.2.os, hHW.2.2.tape, hHW.2.2.output, hHW.2.2.size, hHW.2.2.block⟩⟩, by simp⟩
      · obtain rfl : k = n := by omega
        obtain rfl : ok = true := by
          refine HOK.out.2 ?_
          by_cases h : k = 0
          · exact .inl h
          · exact .inr ⟨hn32, (HA.out 0 (by omega)).2, fun i hi => (HA.out i hi).1⟩
        go_wp2_with fail
        go_ret
        exact ⟨rfl, hB⟩
end Go.Proofs.YtdpjknjlhchmcaaGreat

namespace Go.Proofs.YtdpjknjlhchmcaaGreat
open Go.RowKit Pl
set_option linter.unusedVariables false
set_option linter.unusedSimpArgs false
/-- The first r rows are made; entry (i, k) is f i k where D says so. -/
def MkQ (w0 : World) (gO n m r : Nat) (D : Nat → Nat → Prop) (f : Nat → Nat → Cx) (w : World) : Prop :=
  w0.heap.size ≤ gO ∧ gO < w.heap.size ∧ (∃ F, w.rowIs gO 33 n F) ∧
  (∃ G : Nat → Nat, (∀ i, i < n → i < r → w.cell? ⟨gO, i, none⟩ = some (.slice (some ⟨G i, 0, none⟩) m m) ∧ w0.heap.size ≤ G i ∧ G i ≠ gO ∧ G i < w.heap.size ∧ (0 < m → RowB w (G i) 66 (m * 5)) ∧ ∀ k, k < m → D i k → QE w (G i) (k * 5) (f i k)) ∧
    (∀ i, i < n → r ≤ i → w.cell? ⟨gO, i, none⟩ = some (.slice none 0 0)) ∧ (∀ i k, i < n → k < n → i < r → k < r → G i = G k → i = k)) ∧ Below w0.heap.size w0 w
theorem MkQ.to {w0 w w' : World} {gO n m r : Nat} {D : Nat → Nat → Prop} {f : Nat → Nat → Cx} (h : MkQ w0 gO n m r D f w) (hb : Below w.heap.size w w') : MkQ w0 gO n m r D f w' := by
  obtain ⟨h1, h2, ⟨F, h3⟩, ⟨G, h4, h5, h6⟩, h7⟩ := h
  exact ⟨h1, Nat.lt_of_lt_of_le h2 hb.size, ⟨F, h3.of_block (hb.block gO h2)⟩, ⟨G, fun i hi hr => by
    obtain ⟨a1, a2, a3, a4, a5, a6⟩ := h4 i hi hr
    exact ⟨keepc hb a1 h2, a2, a3, Nat.lt_of_lt_of_le a4 hb.size, fun hm => (a5 hm).to hb, fun k hk hd => (a6 k hk hd).to hb⟩, fun i hi hr => keepc hb (h5 i hi hr) h2, h6⟩, h7.trans (hb.mono h7.size)⟩
theorem MkQ.new {w : World} {n m : Nat} {D : Nat → Nat → Prop} {f : Nat → Nat → Cx} : MkQ w w.heap.size n m 0 D f (mkS w n 33) := by
  have h := mkS_row w n 33
  exact ⟨Nat.le_refl _, by rw [mkS_size]; omega, ⟨_, h⟩, ⟨fun _ => 0, fun i _ hr => absurd hr (Nat.not_lt_zero _), fun i hi _ => h.cell hi, fun i k _ _ h => absurd h (Nat.not_lt_zero _)⟩, mkS_below _ _ _⟩
theorem MkQ.at {w0 w : World} {gO n m r : Nat} {D : Nat → Nat → Prop} {f : Nat → Nat → Cx} (h : MkQ w0 gO n m r D f w) {i : Nat} (hi : i < n) : ∃ v, w.cell? ⟨gO, i, none⟩ = some v ∧ w.frozen? ⟨gO, i, none⟩ = false := by
  obtain ⟨_, _, ⟨F, h3⟩, _⟩ := h
  exact ⟨_, h3.cell hi, h3.frozen i⟩
/-- A row is made. -/
theorem MkQ.row {w0 w : World} {gO n m r : Nat} {D : Nat → Nat → Prop} {f : Nat → Nat → Cx} (h : MkQ w0 gO n m r D f w) (hr : r < n) (hD : ∀ k, k < m → ¬ D r k) :
    MkQ w0 gO n m (r + 1) D f ((mkN w m 66).setCell ⟨gO, r, none⟩ (.slice (some ⟨w.heap.size, 0, none⟩) m m)) := by
  have hb := mkN_below w m 66
  have hsz := mkN_size w m 66
  have hrow := mkN_row w m 66
  have h2 := h.to hb
  obtain ⟨a1, a2, _, ⟨G0, a4, _⟩, _⟩ := h
  obtain ⟨h1, h3, ⟨F, h4⟩, ⟨G, h5, h6, h7⟩, h8⟩ := h2
  generalize mkN w m 66 = W at *
  have hS : ∃ (S : Option Addr) (a b : Nat), W.cell? ⟨gO, 0, none⟩ = some (.slice S a b) := by
    by_cases h0 : 0 < r
    · exact ⟨_, _, _, (h5 0 (by omega) h0).1⟩
    · exact ⟨_, _, _, h6 0 (by omega) (by omega)⟩
  obtain ⟨S, sa, sb, hS⟩ := hS
  have u := h6 r hr (Nat.le_refl _)
  have gne : ∀ i, i < n → i < r → G i ≠ w.heap.size ∨ True := fun _ _ _ => .inr trivial
  refine ⟨h1, by simpa [World.setCell] using h3, ⟨_, h4.set _ _⟩, ⟨fun i => if i = r then w.heap.size else if G i = w.heap.size then G i else G i, fun i hi hi2 => ?_, fun i hi hi2 => keepo (h6 i hi (by omega)) (.inr (by omega)), fun i k hi hk hi2 hk2 he => ?_⟩, h8.setCell h1 _⟩
  · by_cases e : i = r
    · subst e
      simp only [if_pos]
      refine ⟨cell_self u, Nat.le_trans h1 (by omega), by omega, by simp [World.setCell]; omega, fun hm => ?_, fun k hk hd => absurd hd (hD k hk)⟩
      obtain ⟨⟨F2, q1⟩, c, q2⟩ := hrow hm
      exact ⟨⟨F2, q1.setOther (a := ⟨gO, i, none⟩) (by show w.heap.size ≠ gO; omega) _⟩, c, keepo q2 (.inl (by omega))⟩
    · simp only [if_neg e, ite_self]
      obtain ⟨b1, b2, b3, b4, b5, b6⟩ := h5 i hi (by omega)
      refine ⟨keepo b1 (.inr (by omega)), b2, b3, by simpa [World.setCell] using b4, fun hm => ?_, fun k hk hd => (b6 k hk hd).setS b3 hS⟩
      obtain ⟨⟨F2, q1⟩, c, q2⟩ := b5 hm
      exact ⟨⟨F2, q1.setOther (a := ⟨gO, r, none⟩) b3 _⟩, c, keepo q2 (.inl b3)⟩
  · have old : ∀ j, j < n → j < r → G j < w.heap.size := by
      intro j hj hjr
      have e1 := (h5 j hj hjr).1
      obtain ⟨c1, _, _, c4, _⟩ := a4 j hj hjr
      rw [keepc hb c1 a2] at e1
      injection e1 with e1; injection e1 with e1; injection e1 with e1; injection e1 with e1
      omega
    by_cases ei : i = r <;> by_cases ek : k = r
    · omega
    · simp only [if_pos ei, if_neg ek, ite_self] at he
      have := old k hk (by omega)
      omega
    · simp only [if_pos ek, if_neg ei, ite_self] at he
      have := old i hi (by omega)
      omega
    · simp only [if_neg ei, if_neg ek, ite_self] at he
      exact h7 i k hi hk (by omega) (by omega) he
/-- An entry is stored. -/
theorem MkQ.put {w0 W : World} {gO n m r i k : Nat} {D : Nat → Nat → Prop} {f : Nat → Nat → Cx} (h : MkQ w0 gO n m r D f W) (hi : i < n) (hr : i < r) (hk : k < m) :
    ∃ g, W.cell? ⟨gO, i, none⟩ = some (.slice (some ⟨g, 0, none⟩) m m) ∧ gO < W.heap.size ∧ g < W.heap.size ∧ (D i k → QE W g (k * 5) (f i k)) ∧ ∀ w, Below W.heap.size W w →
      (∃ u0 u1 u2 u3 u4, w.cell? ⟨g, k * 5, none⟩ = some u0 ∧ w.cell? ⟨g, k * 5 + 1, none⟩ = some u1 ∧ w.cell? ⟨g, k * 5 + 2, none⟩ = some u2 ∧ w.cell? ⟨g, k * 5 + 3, none⟩ = some u3 ∧ w.cell? ⟨g, k * 5 + 4, none⟩ = some u4) ∧
      (w.frozen? ⟨g, k * 5, none⟩ = false ∧ w.frozen? ⟨g, k * 5 + 1, none⟩ = false ∧ w.frozen? ⟨g, k * 5 + 2, none⟩ = false ∧ w.frozen? ⟨g, k * 5 + 3, none⟩ = false ∧ w.frozen? ⟨g, k * 5 + 4, none⟩ = false) ∧
      ∀ (D' : Nat → Nat → Prop) (f' : Nat → Nat → Cx) (q : Cx) (A1 A2 A3 : Option Addr) (c1 c2 c3 : Nat), Num3C w A1 A2 A3 q → f' i k = q → (∀ a b, ¬ (a = i ∧ b = k) → D' a b → D a b ∧ f' a b = f a b) → MkQ w0 gO n m r D' f' (set5q w g (k * 5) q A1 A2 A3 c1 c2 c3) := by
  have hW := h
  obtain ⟨h1, h2, _, ⟨G, h4, h5, h6⟩, _⟩ := hW
  obtain ⟨a1, a2, a3, a4, a5, a6⟩ := h4 i hi hr
  refine ⟨G i, a1, h2, a4, a6 k hk, fun w hb => ?_⟩
  obtain ⟨k1, k2, ⟨F, k3⟩, _, k7⟩ := h.to hb
  have hrow := (a5 (by omega)).to hb
  obtain ⟨⟨F2, q1⟩, c, q2⟩ := hrow
  have e5 : k * 5 + 5 ≤ m * 5 := by omega
  refine ⟨⟨_, _, _, _, _, q1.cell (by omega), q1.cell (by omega), q1.cell (by omega), q1.cell (by omega), q1.cell (by omega)⟩, ⟨q1.frozen _, q1.frozen _, q1.frozen _, q1.frozen _, q1.frozen _⟩, fun D' f' q A1 A2 A3 c1 c2 c3 hq hf hD => ?_⟩
  have g4 : ∀ j, j < n → j < r → w.cell? ⟨gO, j, none⟩ = some (.slice (some ⟨G j, 0, none⟩) m m) ∧ w0.heap.size ≤ G j ∧ G j ≠ gO ∧ G j < w.heap.size ∧ (0 < m → RowB w (G j) 66 (m * 5)) ∧ ∀ k, k < m → D j k → QE w (G j) (k * 5) (f j k) := fun j hj hjr => by
    obtain ⟨b1, b2, b3, b4, b5, b6⟩ := h4 j hj hjr
    exact ⟨keepc hb b1 h2, b2, b3, Nat.lt_of_lt_of_le b4 hb.size, fun hm => (b5 hm).to hb, fun k hk hd => (b6 k hk hd).to hb⟩
  refine ⟨k1, by rw [set5q_size]; exact k2, ?_, ⟨G, fun j hj hjr => ?_, fun j hj hjr => set5q_cell (keepc hb (h5 j hj hjr) h2) (.inl (Ne.symm a3)), h6⟩, set5q_below k7 a2⟩
  · exact ⟨F, ((((k3.setOther (a := ⟨G i, k * 5, none⟩) (Ne.symm a3) _).setOther (a := ⟨G i, k * 5 + 1, none⟩) (Ne.symm a3) _).setOther (a := ⟨G i, k * 5 + 2, none⟩) (Ne.symm a3) _).setOther (a := ⟨G i, k * 5 + 3, none⟩) (Ne.symm a3) _).setOther (a := ⟨G i, k * 5 + 4, none⟩) (Ne.symm a3) _⟩
  · obtain ⟨b1, b2, b3, b4, b5, b6⟩ := g4 j hj hjr
    refine ⟨set5q_cell b1 (.inl (Ne.symm a3)), b2, b3, by rw [set5q_size]; exact b4, fun hm => (b5 hm).set5q, fun l hl hd => ?_⟩
    by_cases e : j = i ∧ l = k
    · obtain ⟨rfl, rfl⟩ := e
      rw [hf]
      exact qe_set q1 e5 q2 hq
    · obtain ⟨d1, d2⟩ := hD j l e hd
      rw [d2]
      refine (b6 l hl d1).set5q ?_ q2
      by_cases ej : j = i
      · subst ej
        right
        have : l ≠ k := fun e2 => e ⟨rfl, e2⟩
        omega
      · left
        intro e2
        exact ej (h6 j i hj hi hjr hr e2)
theorem MkQ.fin {w0 w : World} {gO n m : Nat} {D : Nat → Nat → Prop} {f : Nat → Nat → Cx} (h : MkQ w0 gO n m n D f w) (hD : ∀ i k, D i k) : MatQ w (some ⟨gO, 0, none⟩) n (fun _ => m) f ∧ Below w0.heap.size w0 w := by
  obtain ⟨h1, h2, _, ⟨G, h4, _, _⟩, h7⟩ := h
  exact ⟨⟨fun i => some ⟨G i, 0, none⟩, fun _ => m, fun i hi => ⟨gO, 0, rfl, h2, by rw [Nat.zero_add]; exact (h4 i hi hi).1⟩, fun i hi j hj => ⟨_, rfl, (h4 i hi hi).2.2.2.2.2 j hj (hD i j)⟩⟩, h7⟩
end Go.Proofs.YtdpjknjlhchmcaaGreat

namespace Go.Proofs.YtdpjknjlhchmcaaGreat
open Go.RowKit Pl
set_option linter.unusedVariables false
set_option linter.unusedSimpArgs false
/-- A slot holds a number of the reference. -/
def SlotNumC (w : World) (u : Value) (q : Cx) : Prop := ∃ A1 A2 A3 c1 c2 c3, u = .agg #[.bool (sn (na q)), .slice A1 (ln (ab (na q))) c1, .bool (sn (nb q)), .slice A2 (ln (ab (nb q))) c2, .slice A3 (ln (nd q)) c3] ∧ Num3C w A1 A2 A3 q
theorem SlotNumC.to {w w' : World} {u : Value} {q : Cx} (h : SlotNumC w u q) (hb : Below w.heap.size w w') : SlotNumC w' u q := by
  obtain ⟨A1, A2, A3, c1, c2, c3, e, h⟩ := h; exact ⟨A1, A2, A3, c1, c2, c3, e, h.to hb⟩
def Froz (w : World) (g : Nat) : Prop := w.frozen? ⟨g, 0, none⟩ = false ∧ w.frozen? ⟨g, 1, none⟩ = false ∧ w.frozen? ⟨g, 2, none⟩ = false ∧ w.frozen? ⟨g, 3, none⟩ = false ∧ w.frozen? ⟨g, 4, none⟩ = false
/-- Five cells of a variable. -/
def Var5 (w : World) (g : Nat) : Prop := g < w.heap.size ∧ (∃ c v1 v2 v3 v4, w.cell? ⟨g, 0, none⟩ = some (.bool c) ∧ w.cell? ⟨g, 1, none⟩ = some v1 ∧ w.cell? ⟨g, 2, none⟩ = some v2 ∧ w.cell? ⟨g, 3, none⟩ = some v3 ∧ w.cell? ⟨g, 4, none⟩ = some v4) ∧ Froz w g
/-- The variable holds a number of the program; of the reference. -/
def HasP (w : World) (g : Nat) (q : Cx) : Prop := g < w.heap.size ∧ (∃ A1 A2 A3, Cells5 w g q A1 A2 A3 ∧ Num3 w A1 A2 A3 q) ∧ Froz w g
def HasR (w : World) (g : Nat) (q : Cx) : Prop := g < w.heap.size ∧ (∃ A1 A2 A3 k1 k2 k3, Cells5c w g q A1 A2 A3 k1 k2 k3 ∧ Num3C w A1 A2 A3 q) ∧ Froz w g
theorem HasP.var {w : World} {g : Nat} {q : Cx} (h : HasP w g q) : Var5 w g := by
  obtain ⟨l, ⟨A1, A2, A3, ⟨c0, c1, c2, c3, c4⟩, _⟩, f⟩ := h; exact ⟨l, ⟨_, _, _, _, _, c0, c1, c2, c3, c4⟩, f⟩
theorem HasR.var {w : World} {g : Nat} {q : Cx} (h : HasR w g q) : Var5 w g := by
  obtain ⟨l, ⟨A1, A2, A3, k1, k2, k3, ⟨c0, c1, c2, c3, c4⟩, _⟩, f⟩ := h; exact ⟨l, ⟨_, _, _, _, _, c0, c1, c2, c3, c4⟩, f⟩
theorem Froz.to {w w' : World} {g : Nat} (h : Froz w g) (hb : Below w.heap.size w w') (hl : g < w.heap.size) : Froz w' g := ⟨keepf hb h.1 hl, keepf hb h.2.1 hl, keepf hb h.2.2.1 hl, keepf hb h.2.2.2.1 hl, keepf hb h.2.2.2.2 hl⟩
theorem Froz.set5 {w : World} {g p : Nat} {q : Cx} {A1 A2 A3 : Option Addr} (h : Froz w g) : Froz (set5 w p q A1 A2 A3) g := ⟨set5_frozen h.1, set5_frozen h.2.1, set5_frozen h.2.2.1, set5_frozen h.2.2.2.1, set5_frozen h.2.2.2.2⟩
theorem Froz.set5c {w : World} {g p : Nat} {q : Cx} {A1 A2 A3 : Option Addr} {k1 k2 k3 : Nat} (h : Froz w g) : Froz (set5c w p q A1 A2 A3 k1 k2 k3) g := ⟨set5c_frozen h.1, set5c_frozen h.2.1, set5c_frozen h.2.2.1, set5c_frozen h.2.2.2.1, set5c_frozen h.2.2.2.2⟩
theorem Var5.to {w w' : World} {g : Nat} (h : Var5 w g) (hb : Below w.heap.size w w') : Var5 w' g := by
  obtain ⟨l, ⟨c, v1, v2, v3, v4, c0, c1, c2, c3, c4⟩, f⟩ := h
  exact ⟨Nat.lt_of_lt_of_le l hb.size, ⟨c, v1, v2, v3, v4, keepc hb c0 l, keepc hb c1 l, keepc hb c2 l, keepc hb c3 l, keepc hb c4 l⟩, f.to hb l⟩
theorem HasP.to {w w' : World} {g : Nat} {q : Cx} (h : HasP w g q) (hb : Below w.heap.size w w') : HasP w' g q := by
  obtain ⟨l, ⟨A1, A2, A3, ⟨c0, c1, c2, c3, c4⟩, n⟩, f⟩ := h
  exact ⟨Nat.lt_of_lt_of_le l hb.size, ⟨A1, A2, A3, ⟨keepc hb c0 l, keepc hb c1 l, keepc hb c2 l, keepc hb c3 l, keepc hb c4 l⟩, n.to hb⟩, f.to hb l⟩
theorem HasR.to {w w' : World} {g : Nat} {q : Cx} (h : HasR w g q) (hb : Below w.heap.size w w') : HasR w' g q := by
  obtain ⟨l, ⟨A1, A2, A3, k1, k2, k3, ⟨c0, c1, c2, c3, c4⟩, n⟩, f⟩ := h
  exact ⟨Nat.lt_of_lt_of_le l hb.size, ⟨A1, A2, A3, k1, k2, k3, ⟨keepc hb c0 l, keepc hb c1 l, keepc hb c2 l, keepc hb c3 l, keepc hb c4 l⟩, n.to hb⟩, f.to hb l⟩
-- a store into the block p (a number of the program)
theorem set5_num3C {w : World} {p : Nat} {q r : Cx} {A1 A2 A3 B1 B2 B3 : Option Addr} {c : Bool} (h : Num3C w B1 B2 B3 r) (u : w.cell? ⟨p, 0, none⟩ = some (.bool c)) : Num3C (set5 w p q A1 A2 A3) B1 B2 B3 r := ⟨set5_nat h.1 u, set5_nat h.2.1 u, set5_nat h.2.2 u⟩
theorem set5c_num3P {w : World} {p : Nat} {q r : Cx} {A1 A2 A3 B1 B2 B3 : Option Addr} {k1 k2 k3 : Nat} {c : Bool} (h : Num3 w B1 B2 B3 r) (u : w.cell? ⟨p, 0, none⟩ = some (.bool c)) : Num3 (set5c w p q A1 A2 A3 k1 k2 k3) B1 B2 B3 r := ⟨set5c_nat h.1 u, set5c_nat h.2.1 u, set5c_nat h.2.2 u⟩
theorem SlotNumC.set5 {w : World} {u : Value} {q r : Cx} {p : Nat} {A1 A2 A3 : Option Addr} {c : Bool} (h : SlotNumC w u r) (k : w.cell? ⟨p, 0, none⟩ = some (.bool c)) : SlotNumC (set5 w p q A1 A2 A3) u r := by
  obtain ⟨B1, B2, B3, d1, d2, d3, e, h⟩ := h; exact ⟨B1, B2, B3, d1, d2, d3, e, set5_num3C h k⟩
theorem SlotNumC.set5c {w : World} {u : Value} {q r : Cx} {p : Nat} {A1 A2 A3 : Option Addr} {k1 k2 k3 : Nat} {c : Bool} (h : SlotNumC w u r) (k : w.cell? ⟨p, 0, none⟩ = some (.bool c)) : SlotNumC (set5c w p q A1 A2 A3 k1 k2 k3) u r := by
  obtain ⟨B1, B2, B3, d1, d2, d3, e, h⟩ := h; exact ⟨B1, B2, B3, d1, d2, d3, e, set5c_num3 h k⟩
theorem SlotNum.set5c {w : World} {u : Value} {q r : Cx} {p : Nat} {A1 A2 A3 : Option Addr} {k1 k2 k3 : Nat} {c : Bool} (h : SlotNum w u r) (k : w.cell? ⟨p, 0, none⟩ = some (.bool c)) : SlotNum (set5c w p q A1 A2 A3 k1 k2 k3) u r := by
  obtain ⟨B1, B2, B3, e, h⟩ := h; exact ⟨B1, B2, B3, e, set5c_num3P h k⟩
theorem HasP.set5 {w : World} {g p : Nat} {q r : Cx} {A1 A2 A3 : Option Addr} {c : Bool} (h : HasP w g r) (hn : g ≠ p) (k : w.cell? ⟨p, 0, none⟩ = some (.bool c)) : HasP (set5 w p q A1 A2 A3) g r := by
  obtain ⟨l, ⟨B1, B2, B3, ⟨c0, c1, c2, c3, c4⟩, n⟩, f⟩ := h
  exact ⟨by rw [set5_size]; exact l, ⟨B1, B2, B3, ⟨set5_cell c0 hn, set5_cell c1 hn, set5_cell c2 hn, set5_cell c3 hn, set5_cell c4 hn⟩, set5_num3 n k⟩, f.set5⟩
theorem HasP.set5c {w : World} {g p : Nat} {q r : Cx} {A1 A2 A3 : Option Addr} {k1 k2 k3 : Nat} {c : Bool} (h : HasP w g r) (hn : g ≠ p) (k : w.cell? ⟨p, 0, none⟩ = some (.bool c)) : HasP (set5c w p q A1 A2 A3 k1 k2 k3) g r := by
  obtain ⟨l, ⟨B1, B2, B3, ⟨c0, c1, c2, c3, c4⟩, n⟩, f⟩ := h
  exact ⟨by rw [set5c_size]; exact l, ⟨B1, B2, B3, ⟨set5c_cell c0 hn, set5c_cell c1 hn, set5c_cell c2 hn, set5c_cell c3 hn, set5c_cell c4 hn⟩, set5c_num3P n k⟩, f.set5c⟩
theorem HasR.set5 {w : World} {g p : Nat} {q r : Cx} {A1 A2 A3 : Option Addr} {c : Bool} (h : HasR w g r) (hn : g ≠ p) (k : w.cell? ⟨p, 0, none⟩ = some (.bool c)) : HasR (set5 w p q A1 A2 A3) g r := by
  obtain ⟨l, ⟨B1, B2, B3, d1, d2, d3, ⟨c0, c1, c2, c3, c4⟩, n⟩, f⟩ := h
  exact ⟨by rw [set5_size]; exact l, ⟨B1, B2, B3, d1, d2, d3, ⟨set5_cell c0 hn, set5_cell c1 hn, set5_cell c2 hn, set5_cell c3 hn, set5_cell c4 hn⟩, set5_num3C n k⟩, f.set5⟩
theorem HasR.set5c {w : World} {g p : Nat} {q r : Cx} {A1 A2 A3 : Option Addr} {k1 k2 k3 : Nat} {c : Bool} (h : HasR w g r) (hn : g ≠ p) (k : w.cell? ⟨p, 0, none⟩ = some (.bool c)) : HasR (set5c w p q A1 A2 A3 k1 k2 k3) g r := by
  obtain ⟨l, ⟨B1, B2, B3, d1, d2, d3, ⟨c0, c1, c2, c3, c4⟩, n⟩, f⟩ := h
  exact ⟨by rw [set5c_size]; exact l, ⟨B1, B2, B3, d1, d2, d3, ⟨set5c_cell c0 hn, set5c_cell c1 hn, set5c_cell c2 hn, set5c_cell c3 hn, set5c_cell c4 hn⟩, set5c_num3 n k⟩, f.set5c⟩
theorem Var5.set5 {w : World} {g p : Nat} {q : Cx} {A1 A2 A3 : Option Addr} (h : Var5 w g) (hn : g ≠ p) : Var5 (set5 w p q A1 A2 A3) g := by
  obtain ⟨l, ⟨c, v1, v2, v3, v4, c0, c1, c2, c3, c4⟩, f⟩ := h
  exact ⟨by rw [set5_size]; exact l, ⟨c, v1, v2, v3, v4, set5_cell c0 hn, set5_cell c1 hn, set5_cell c2 hn, set5_cell c3 hn, set5_cell c4 hn⟩, f.set5⟩
theorem Var5.set5c {w : World} {g p : Nat} {q : Cx} {A1 A2 A3 : Option Addr} {k1 k2 k3 : Nat} (h : Var5 w g) (hn : g ≠ p) : Var5 (set5c w p q A1 A2 A3 k1 k2 k3) g := by
  obtain ⟨l, ⟨c, v1, v2, v3, v4, c0, c1, c2, c3, c4⟩, f⟩ := h
  exact ⟨by rw [set5c_size]; exact l, ⟨c, v1, v2, v3, v4, set5c_cell c0 hn, set5c_cell c1 hn, set5c_cell c2 hn, set5c_cell c3 hn, set5c_cell c4 hn⟩, f.set5c⟩
theorem Var5.putP {w : World} {p : Nat} {q : Cx} {A1 A2 A3 : Option Addr} (h : Var5 w p) (hq : Num3 w A1 A2 A3 q) : HasP (Proofs.YtdpjknjlhchmcaaGreat.set5 w p q A1 A2 A3) p q := by
  obtain ⟨l, ⟨c, v1, v2, v3, v4, c0, c1, c2, c3, c4⟩, f⟩ := h
  exact ⟨by rw [set5_size]; exact l, ⟨A1, A2, A3, set5_self c0 c1 c2 c3 c4, set5_num3 hq c0⟩, f.set5⟩
theorem Var5.new {w : World} {T : TypeId} : Var5 (w.alloc (.cells #[.bool false, .slice none 0 0, .bool false, .slice none 0 0, .slice none 0 0] T)) w.heap.size :=
  ⟨by simp, ⟨false, .slice none 0 0, .bool false, .slice none 0 0, .slice none 0 0, by go_simp, by go_simp, by go_simp, by go_simp, by go_simp⟩, by go_simp, by go_simp, by go_simp, by go_simp, by go_simp⟩
/-- What a slot points to. -/
def AtV (B : Nat) (w : World) (u : Value) : Prop := ∃ g, u = .pointer (some ⟨g, 0, none⟩) ∧ B ≤ g ∧ Var5 w g
theorem AtV.to {B : Nat} {w w' : World} {u : Value} (h : AtV B w u) (hb : Below w.heap.size w w') : AtV B w' u := by obtain ⟨g, e, h1, h2⟩ := h; exact ⟨g, e, h1, h2.to hb⟩
theorem AtV.new {B : Nat} {w : World} {T : TypeId} (hB : B ≤ w.heap.size) : AtV B (w.alloc (.cells #[.bool false, .slice none 0 0, .bool false, .slice none 0 0, .slice none 0 0] T)) (.pointer (some ⟨w.heap.size, 0, none⟩)) := ⟨_, rfl, hB, Var5.new⟩
theorem AtV.ne {B : Nat} {w : World} {u : Value} (h : AtV B w u) : u ≠ .pointer (some ⟨w.heap.size, 0, none⟩) := by
  obtain ⟨g, e, h1, h2, _⟩ := h
  intro e2; rw [e] at e2
  injection e2 with e2; injection e2 with e2; injection e2 with e2; omega
theorem AtV.set5 {B : Nat} {w : World} {u : Value} {q : Cx} {p : Nat} {A1 A2 A3 : Option Addr} (h : AtV B w u) (hn : u ≠ .pointer (some ⟨p, 0, none⟩)) : AtV B (set5 w p q A1 A2 A3) u := by
  obtain ⟨g, e, h1, h2⟩ := h; exact ⟨g, e, h1, h2.set5 (by rintro rfl; exact hn e)⟩
theorem AtV.set5c {B : Nat} {w : World} {u : Value} {q : Cx} {p : Nat} {A1 A2 A3 : Option Addr} {k1 k2 k3 : Nat} (h : AtV B w u) (hn : u ≠ .pointer (some ⟨p, 0, none⟩)) : AtV B (set5c w p q A1 A2 A3 k1 k2 k3) u := by
  obtain ⟨g, e, h1, h2⟩ := h; exact ⟨g, e, h1, h2.set5c (by rintro rfl; exact hn e)⟩
/-- A slot points to a variable that holds a number. -/
def PtP (w : World) (u : Value) (q : Cx) : Prop := ∃ g, u = .pointer (some ⟨g, 0, none⟩) ∧ HasP w g q
def PtR (w : World) (u : Value) (q : Cx) : Prop := ∃ g, u = .pointer (some ⟨g, 0, none⟩) ∧ HasR w g q
theorem PtP.to {w w' : World} {u : Value} {q : Cx} (h : PtP w u q) (hb : Below w.heap.size w w') : PtP w' u q := by obtain ⟨g, e, h⟩ := h; exact ⟨g, e, h.to hb⟩
theorem PtR.to {w w' : World} {u : Value} {q : Cx} (h : PtR w u q) (hb : Below w.heap.size w w') : PtR w' u q := by obtain ⟨g, e, h⟩ := h; exact ⟨g, e, h.to hb⟩
theorem PtP.set5 {w : World} {u : Value} {q r : Cx} {p : Nat} {A1 A2 A3 : Option Addr} {c : Bool} (h : PtP w u r) (hn : u ≠ .pointer (some ⟨p, 0, none⟩)) (k : w.cell? ⟨p, 0, none⟩ = some (.bool c)) : PtP (set5 w p q A1 A2 A3) u r := by
  obtain ⟨g, e, h⟩ := h; exact ⟨g, e, h.set5 (by rintro rfl; exact hn e) k⟩
theorem PtP.set5c {w : World} {u : Value} {q r : Cx} {p : Nat} {A1 A2 A3 : Option Addr} {k1 k2 k3 : Nat} {c : Bool} (h : PtP w u r) (hn : u ≠ .pointer (some ⟨p, 0, none⟩)) (k : w.cell? ⟨p, 0, none⟩ = some (.bool c)) : PtP (set5c w p q A1 A2 A3 k1 k2 k3) u r := by
  obtain ⟨g, e, h⟩ := h; exact ⟨g, e, h.set5c (by rintro rfl; exact hn e) k⟩
theorem PtR.set5 {w : World} {u : Value} {q r : Cx} {p : Nat} {A1 A2 A3 : Option Addr} {c : Bool} (h : PtR w u r) (hn : u ≠ .pointer (some ⟨p, 0, none⟩)) (k : w.cell? ⟨p, 0, none⟩ = some (.bool c)) : PtR (set5 w p q A1 A2 A3) u r := by
  obtain ⟨g, e, h⟩ := h; exact ⟨g, e, h.set5 (by rintro rfl; exact hn e) k⟩
theorem PtR.set5c {w : World} {u : Value} {q r : Cx} {p : Nat} {A1 A2 A3 : Option Addr} {k1 k2 k3 : Nat} {c : Bool} (h : PtR w u r) (hn : u ≠ .pointer (some ⟨p, 0, none⟩)) (k : w.cell? ⟨p, 0, none⟩ = some (.bool c)) : PtR (set5c w p q A1 A2 A3 k1 k2 k3) u r := by
  obtain ⟨g, e, h⟩ := h; exact ⟨g, e, h.set5c (by rintro rfl; exact hn e) k⟩
theorem HasP.slot {w : World} {g : Nat} {q : Cx} (h : HasP w g q) : ∃ A1 A2 A3, Cells5 w g q A1 A2 A3 ∧ Num3 w A1 A2 A3 q := h.2.1
theorem HasR.slot {w : World} {g : Nat} {q : Cx} (h : HasR w g q) : ∃ A1 A2 A3 k1 k2 k3, Cells5c w g q A1 A2 A3 k1 k2 k3 ∧ Num3C w A1 A2 A3 q := h.2.1
end Go.Proofs.YtdpjknjlhchmcaaGreat

namespace Go.Proofs.YtdpjknjlhchmcaaGreat
open Go.RowKit Pl
set_option linter.unusedVariables false
set_option linter.unusedSimpArgs false
def RetZ (w : World) (n m : Nat) (e : Ending) (w' : World) : Prop := ∃ gO, e = .returned (.slice (some ⟨gO, 0, none⟩) n n) ∧ MkQ w gO n m n (fun _ _ => True) (fun _ _ => Cx.ofInt 0) w'
theorem MkQ.mono {w0 w : World} {gO n m r : Nat} {D D' : Nat → Nat → Prop} {f : Nat → Nat → Cx} (h : MkQ w0 gO n m r D f w) (hd : ∀ i k, i < r → k < m → D' i k → D i k) : MkQ w0 gO n m r D' f w := by
  obtain ⟨h1, h2, h3, ⟨G, h4, h5, h6⟩, h7⟩ := h
  exact ⟨h1, h2, h3, ⟨G, fun i hi hr => by
    obtain ⟨a1, a2, a3, a4, a5, a6⟩ := h4 i hi hr
    exact ⟨a1, a2, a3, a4, a5, fun k hk hk2 => a6 k hk (hd i k hr hk hk2)⟩, h5, h6⟩, h7⟩
set_option maxRecDepth 100000 in
set_option maxHeartbeats 40000000 in
theorem zeros_any (w : World) (n m : Nat) (hn : n ≤ 1000) (hm : m ≤ 1000) :
    Calls Tryz.prog 64 #[.int .i64 n, .int .i64 m] w (RetZ w n m) := by
  have hmk := mk_qs2 n (by omega)
  have hmk2 := mk_qs m (by omega)
  go_enter Tryz.func64, Tryz.ntmps64
  go_upto_region 3 with fail
  clear hmk
  have hB0 : MkQ w w.heap.size n m 0 (fun _ _ => True) (fun _ _ => Cx.ofInt 0) (mkS w n 33) := MkQ.new
  generalize mkS w n 33 = W0 at *
  obtain ⟨gO, hgO⟩ : ∃ g, g = w.heap.size := ⟨_, rfl⟩
  rw [← hgO] at hB0 ⊢
  clear hgO
  go_loopw [6] (fun i (wr : World) => ∃ k : Nat, k ≤ n ∧ i = .int .i64 k ∧ MkQ w gO n m k (fun _ _ => True) (fun _ _ => Cx.ofInt 0) wr) (fun i _ => n - (intOf i).toNat)
  case atStart => exact ⟨0, Nat.zero_le _, rfl, hB0⟩
  case round =>
    obtain ⟨i, hi, rfl, hB⟩ := hrel
    clear hB0
    by_cases hlt : i < n
    · obtain ⟨v0, hv0, hv1⟩ := (hB.to (mkN_below wr m 66)).at hlt
      have hB2 := (hB.mono (D' := fun a b => a ≠ i) (fun a b _ _ _ => trivial)).row hlt (fun k _ h => h rfl)
      have i1 : (0 : Int) ≤ (i : Int) := by omega
      have i2 : (i : Int) < (n : Int) := by omega
      clear hB
      go_upto_region 7 with fail
      generalize (mkN wr m 66).setCell ⟨gO, i, none⟩ (.slice (some ⟨wr.heap.size, 0, none⟩) m m) = W1 at *
      clear hv0 hv1
      generalize wr.heap.size = gw at *
      have hB3 : MkQ w gO n m (i + 1) (fun a b => a ≠ i ∨ b < 0) (fun _ _ => Cx.ofInt 0) W1 := hB2.mono (fun a b _ _ h => by omega)
      clear hB2 hmk2
      go_loopw [7] (fun q (wr : World) => ∃ k : Nat, k ≤ m ∧ q = .int .i64 k ∧ MkQ w gO n m (i + 1) (fun a b => a ≠ i ∨ b < k) (fun _ _ => Cx.ofInt 0) wr) (fun q _ => m - (intOf q).toNat)
      case atStart => exact ⟨0, Nat.zero_le _, rfl, hB3⟩
      case round =>
        obtain ⟨k, hk, rfl, hB⟩ := hrel
        clear hB3
        by_cases hlk : k < m
        · obtain ⟨g, hg1, hg2, hg3, _, hput⟩ := hB.put hlt (Nat.lt_succ_self i) hlk
          have i3 : (0 : Int) ≤ (k : Int) := by omega
          have i4 : (k : Int) < (m : Int) := by omega
          clear hB
          go_upto_region 9 with fail
          refine wp_region_any (by kernel_rfl) ?_
          refine wpAny_inv (fun l a' w' => ∃ V : Nat → Value, ∃ x5 : Value, a' = ⟨#[.int .i64 ↑n, .int .i64 ↑m, undef, undef, .slice none 0 0, .slice (some ⟨gO, 0, none⟩) n n, .int .i64 ↑i, .int .i64 ↑k, .int .i64 ↑n, .slice (some ⟨gO, 0, none⟩) n n, .int .i64 ↑i, .int .i64 ↑n, .bool true, u13, u14, .slice (some ⟨gO, 0, none⟩) n n, .int .i64 ↑i, .int .i64 ↑m, .slice (some ⟨gw, 0, none⟩) m m, .pointer (some ⟨gO, i, none⟩), .int .i64 ↑k, .int .i64 ↑m, .bool true, u23, u24, V 0, V 1, V 2, V 3, V 4, x5, V 6, undef], []⟩ ∧ OnFix l V (fun zz => List.getD [.slice (some ⟨gO, 0, none⟩) n n, .int .i64 i, .pointer (some ⟨gO, i, none⟩), .slice (some ⟨g, 0, none⟩) m m, .int .i64 k, undef, .pointer (some ⟨g, k * 5, none⟩), undef] zz undef) [0, 1, 2, 3, 4, 6] ∧ Off l 7 (Below wr.heap.size wr w' ∧ On l 5 (SlotNumC w' x5 (Cx.ofInt 0))) ∧ On l 7 (MkQ w gO n m (i + 1) (fun a b => a ≠ i ∨ b < k + 1) (fun _ _ => Cx.ofInt 0) w') ∧ Edg l [(7, 6), (6, 3), (7, 5)] ∧ l.size = 8) ?_ ?_ _ _ _ _ (by decide) ?_
          · intro l a' W' i hi hI
            obtain ⟨V, x5, rfl, hv, hZ, hM0, hE, hz⟩ := hI
            obtain ⟨hlt, hoff, hpre⟩ := ready_pre hi
            have hc : i ∈ [0, 1, 2, 3, 4, 5, 6, 7] := (by decide : ∀ i, i < 8 → i ∈ [0, 1, 2, 3, 4, 5, 6, 7]) i hlt
            simp only [List.mem_cons, List.not_mem_nil, or_false] at hc
            clear hi hlt
            rcases hc with rfl | rfl | rfl | rfl | rfl | rfl | rfl | rfl <;> (have hp := hpre _ rfl; simp [Region.binds] at hp; clear hpre)
            · skip
              have HV := Lib.hid hv
              clear hv
              refine wpOp_go rfl rfl (fun K hK => ?_)
              go_simp
              refine hK _ _ ?_
              exact ⟨_, _, rfl, HV.out.new (x := .slice (some ⟨gO, 0, none⟩) n n) rfl, hZ.keep.map (fun ⟨hb0, y5⟩ => ⟨hb0, y5.keep (by decide)⟩), hM0.keep (by decide), hE.mono (by decide), by simp [hz]⟩
            · skip
              have HV := Lib.hid hv
              clear hv
              refine wpOp_go rfl rfl (fun K hK => ?_)
              go_simp
              refine hK _ _ ?_
              exact ⟨_, _, rfl, HV.out.new (x := .int .i64 i) rfl, hZ.keep.map (fun ⟨hb0, y5⟩ => ⟨hb0, y5.keep (by decide)⟩), hM0.keep (by decide), hE.mono (by decide), by simp [hz]⟩
            · skip
              have e0 : V 0 = .slice (some ⟨gO, 0, none⟩) n n := hv.get 0 (by decide) (by simp [hp])
              have e1 : V 1 = .int .i64 i := hv.get 1 (by decide) (by simp [hp])
              have HV := Lib.hid ((hv.fixE e0 rfl).fixE e1 rfl)
              clear hv
              simp only [e0, e1]
              refine wpOp_go rfl rfl (fun K hK => ?_)
              go_simp
              refine hK _ _ ?_
              exact ⟨_, _, rfl, HV.out.new (x := .pointer (some ⟨gO, i, none⟩)) rfl, hZ.keep.map (fun ⟨hb0, y5⟩ => ⟨hb0, y5.keep (by decide)⟩), hM0.keep (by decide), hE.mono (by decide), by simp [hz]⟩
            · skip
              have e2 : V 2 = .pointer (some ⟨gO, i, none⟩) := hv.get 2 (by decide) (by simp [hp])
              have HV := Lib.hid (hv.fixE e2 rfl)
              clear hv
              simp only [e2]
              have hY := hZ.get (fun h => off hoff (hE.get 6 3 (by decide) (hE.get 7 6 (by decide) h)))
              have z := keepc hY.1 hg1 hg2
              refine wpOp_go rfl rfl (fun K hK => ?_)
              go_simp
              refine hK _ _ ?_
              exact ⟨_, _, rfl, HV.out.new (x := .slice (some ⟨g, 0, none⟩) m m) rfl, hZ.keep.map (fun ⟨hb0, y5⟩ => ⟨hb0, y5.keep (by decide)⟩), hM0.keep (by decide), hE.mono (by decide), by simp [hz]⟩
            · skip
              have HV := Lib.hid hv
              clear hv
              refine wpOp_go rfl rfl (fun K hK => ?_)
              go_simp
              refine hK _ _ ?_
              exact ⟨_, _, rfl, HV.out.new (x := .int .i64 k) rfl, hZ.keep.map (fun ⟨hb0, y5⟩ => ⟨hb0, y5.keep (by decide)⟩), hM0.keep (by decide), hE.mono (by decide), by simp [hz]⟩
            · skip
              have HV := Lib.hid hv
              clear hv
              have hY := hZ.get (fun h => off hoff (hE.get 7 5 (by decide) h))
              refine wpOp_go rfl rfl (fun K hK => ?_)
              go_wp2_with (first | (go_at_call 69; refine (rwhole_any 0 _ (by omega) (by omega)).mono ?_; rintro e w3 ⟨E1, E2, E3, kk1, kk2, kk3, rfl, hN, hb⟩))
              try refine hK _ _ ?_
              exact ⟨_, _, rfl, HV.out.other (by decide), Off.new ⟨hY.1.trans (hb.mono hY.1.size), On.new (⟨E1, E2, E3, kk1, kk2, kk3, rfl, hN⟩)⟩, fun h => absurd (hE.get 7 5 (by decide) (on_ne h (by decide))) (off hoff), hE.mono (by decide), by simp [hz]⟩
            · skip
              have e3 : V 3 = .slice (some ⟨g, 0, none⟩) m m := hv.get 3 (by decide) (by simp [hp])
              have e4 : V 4 = .int .i64 k := hv.get 4 (by decide) (by simp [hp])
              have HV := Lib.hid ((hv.fixE e3 rfl).fixE e4 rfl)
              clear hv
              simp only [e3, e4]
              refine wpOp_go rfl rfl (fun K hK => ?_)
              go_simp
              refine hK _ _ ?_
              exact ⟨_, _, rfl, HV.out.new (x := .pointer (some ⟨g, k * 5, none⟩)) rfl, hZ.keep.map (fun ⟨hb0, y5⟩ => ⟨hb0, y5.keep (by decide)⟩), hM0.keep (by decide), hE.step (by simp [hp]), by simp [hz]⟩
            · skip
              have e6 : V 6 = .pointer (some ⟨g, k * 5, none⟩) := hv.get 6 (by decide) (by simp [hp])
              have HV := Lib.hid (hv.fixE e6 rfl)
              clear hv
              simp only [e6]
              have hY := hZ.get (off hoff)
              obtain ⟨E1, E2, E3, kk1, kk2, kk3, e1, hN⟩ := hY.2.get (by simp [hp])
              subst e1
              obtain ⟨⟨u0, u1, u2, u3, u4, d0, d1, d2, d3, d4⟩, ⟨f0, f1, f2, f3, f4⟩, hfin⟩ := hput W' hY.1
              refine wpOp_go rfl rfl (fun K hK => ?_)
              go_simp
              refine hK _ _ ?_
              obtain ⟨XX, hX⟩ : ∃ XX : World, XX = set5q W' g (k * 5) (Cx.ofInt 0) E1 E2 E3 kk1 kk2 kk3 := ⟨_, rfl⟩
              have hw : set5q W' g (k * 5) (Cx.ofInt 0) E1 E2 E3 kk1 kk2 kk3 = XX := hX.symm
              unfold set5q at hw
              rw [hw]
              subst hX
              exact ⟨_, _, rfl, HV.out.other (by decide), Off.done (by omega), On.new (hfin (fun a b => a ≠ i ∨ b < k + 1) (fun _ _ => Cx.ofInt 0) _ E1 E2 E3 kk1 kk2 kk3 hN rfl (fun a b h h2 => ⟨by omega, rfl⟩)), hE.step (by simp [hp]), by simp [hz]⟩
          · intro l a' W' hr hI
            obtain ⟨V, x5, rfl, hv, hZ, hM0, hE, hz⟩ := hI
            have a0 := not_ready (i := 0) hr hz rfl (by simp [Region.binds])
            have a1 := not_ready (i := 1) hr hz rfl (by simp [Region.binds, a0])
            have a2 := not_ready (i := 2) hr hz rfl (by simp [Region.binds, a0, a1])
            have a3 := not_ready (i := 3) hr hz rfl (by simp [Region.binds, a0, a1, a2])
            have a4 := not_ready (i := 4) hr hz rfl (by simp [Region.binds, a0, a1, a2, a3])
            have a5 := not_ready (i := 5) hr hz rfl (by simp [Region.binds, a0, a1, a2, a3, a4])
            have a6 := not_ready (i := 6) hr hz rfl (by simp [Region.binds, a0, a1, a2, a3, a4, a5])
            have a7 := not_ready (i := 7) hr hz rfl (by simp [Region.binds, a0, a1, a2, a3, a4, a5, a6])
            have hY := hM0.get a7
            clear hr hz hv hZ a0 a1 a2 a3 a4 a5 a6 a7 hM0 hE
            go_wp2_with fail
            go_roundw
            case rel => exact ⟨k + 1, by omega, by go_num, hY⟩
            case measure => simp [intOf]; omega
          · exact ⟨fun zz => List.getD [u25, u26, u27, u28, u29, u30, u31, undef] zz undef, _, rfl, OnFix.start, Off.new ⟨((Below.refl _ _).drew), fun h => absurd h (by decide)⟩, fun h => absurd h (by decide), Edg.start, by simp⟩
        · obtain rfl : k = m := by omega
          go_wp2_with fail
          go_roundw
          case rel => exact ⟨i + 1, by omega, by go_num, hB.mono (fun a b _ hb _ => .inr hb)⟩
          case measure => simp [intOf]; omega
    · obtain rfl : i = n := by omega
      go_wp2_with fail
      go_ret
      exact ⟨_, rfl, hB⟩
end Go.Proofs.YtdpjknjlhchmcaaGreat

namespace Go.Proofs.YtdpjknjlhchmcaaGreat
open Go.RowKit Pl
set_option linter.unusedVariables false
set_option linter.unusedSimpArgs false
/-- Five cells. -/
def C5 (w : World) (g : Nat) (v0 v1 v2 v3 v4 : Value) : Prop := w.cell? ⟨g, 0, none⟩ = some v0 ∧ w.cell? ⟨g, 1, none⟩ = some v1 ∧ w.cell? ⟨g, 2, none⟩ = some v2 ∧ w.cell? ⟨g, 3, none⟩ = some v3 ∧ w.cell? ⟨g, 4, none⟩ = some v4
theorem C5.to {w w' : World} {g : Nat} {v0 v1 v2 v3 v4 : Value} (h : C5 w g v0 v1 v2 v3 v4) (hb : Below w.heap.size w w') (l : g < w.heap.size) : C5 w' g v0 v1 v2 v3 v4 :=
  ⟨keepc hb h.1 l, keepc hb h.2.1 l, keepc hb h.2.2.1 l, keepc hb h.2.2.2.1 l, keepc hb h.2.2.2.2 l⟩
-- a list grows
theorem own_cell {w : World} {B g n c size : Nat} {T : TypeId} {xs : List Value} (h : w.ownsRow B T size (.slice (some ⟨g, 0, none⟩) n c) n xs) {j : Nat} (hj : j < n * size) : w.cell? ⟨g, j, none⟩ = xs[j]? := by
  rcases h.2 with ⟨e, _⟩ | ⟨g', cap, cur, e, _, hg, hnc, _, hs, ht⟩
  · cases e
  · injection e with e1 e2 e3
    injection e1 with e1; injection e1 with e1; subst e1
    have e4 : (cur.toList.take (n * size))[j]? = xs[j]? := by rw [ht]
    rw [List.getElem?_take_of_lt hj] at e4
    rw [← e4]
    simp [World.cell?, hg]
theorem grow_nat {w w' : World} {g n : Nat} {A : Option Addr} {c : Bool} (hg : w.grownBy w' (some g)) (u : w.cell? ⟨g, 0, none⟩ = some (.bool c)) (h : Nat32 w A n) : Nat32 w' A n := by
  intro hn
  obtain ⟨b, e, hl, hc⟩ := h hn
  refine ⟨b, e, Nat.lt_of_lt_of_le hl hg.size, fun j hj => ?_⟩
  refine hg.cell (hc j hj) ?_
  intro e2
  injection e2 with e2
  subst e2
  have h0 := hc 0 (by omega)
  rw [u] at h0
  cases h0
theorem grow_num {w w' : World} {g : Nat} {q : Cx} {A1 A2 A3 : Option Addr} {c : Bool} (hg : w.grownBy w' (some g)) (u : w.cell? ⟨g, 0, none⟩ = some (.bool c)) (h : Num3 w A1 A2 A3 q) : Num3 w' A1 A2 A3 q := ⟨grow_nat hg u h.1, grow_nat hg u h.2.1, grow_nat hg u h.2.2⟩
theorem grow_numC {w w' : World} {g : Nat} {q : Cx} {A1 A2 A3 : Option Addr} {c : Bool} (hg : w.grownBy w' (some g)) (u : w.cell? ⟨g, 0, none⟩ = some (.bool c)) (h : Num3C w A1 A2 A3 q) : Num3C w' A1 A2 A3 q := ⟨grow_nat hg u h.1, grow_nat hg u h.2.1, grow_nat hg u h.2.2⟩
theorem PE.grow {w w' : World} {g b o : Nat} {q : Cx} {c : Bool} (h : PE w b o q) (hg : w.grownBy w' (some g)) (u : w.cell? ⟨g, 0, none⟩ = some (.bool c)) (hn : b ≠ g) : PE w' b o q := by
  obtain ⟨A1, A2, A3, ⟨c0, c1, c2, c3, c4⟩, n⟩ := h
  have hne : some b ≠ some g := fun e => hn (by injection e)
  exact ⟨A1, A2, A3, ⟨hg.cell c0 hne, hg.cell c1 hne, hg.cell c2 hne, hg.cell c3 hne, hg.cell c4 hne⟩, grow_num hg u n⟩
theorem QE.grow {w w' : World} {g b o : Nat} {q : Cx} {c : Bool} (h : QE w b o q) (hg : w.grownBy w' (some g)) (u : w.cell? ⟨g, 0, none⟩ = some (.bool c)) (hn : b ≠ g) : QE w' b o q := by
  obtain ⟨A1, A2, A3, k1, k2, k3, ⟨c0, c1, c2, c3, c4⟩, n⟩ := h
  have hne : some b ≠ some g := fun e => hn (by injection e)
  exact ⟨A1, A2, A3, k1, k2, k3, ⟨hg.cell c0 hne, hg.cell c1 hne, hg.cell c2 hne, hg.cell c3 hne, hg.cell c4 hne⟩, grow_numC hg u n⟩
end Go.Proofs.YtdpjknjlhchmcaaGreat

namespace Go.Proofs.YtdpjknjlhchmcaaGreat
open Go.RowKit Pl
set_option linter.unusedVariables false
set_option linter.unusedSimpArgs false
theorem push_row {t T : TypeId} {i : TypeInfo} {z : Value} {bytes : Nat} (ht : Tryz.prog.underlying t = some (.slice T)) (hi : Tryz.prog.info? T = some i) (hz : i.zero = some z) (hs : i.size = 5) (hb : i.bytes = bytes) (hbs : bytes ≤ 1000) (hzs : z.cells.size = 5)
    {w : World} {B n b : Nat} {v1 : Value} {xs : List Value} (ho : w.ownsRow B T 5 v1 n xs) (hB : B ≤ w.heap.size) (hn : n ≤ 1000) {u0 u1 u2 u3 u4 : Value} (hu : C5 w b u0 u1 u2 u3 u4) (hone : u0.oneCell' = true ∧ u1.oneCell' = true ∧ u2.oneCell' = true ∧ u3.oneCell' = true ∧ u4.oneCell' = true) :
    ∃ g2 c2 w', (Builtin.append_ #[t, t] t #[v1, .slice (some ⟨b, 0, none⟩) 1 1]).run Tryz.prog w = .ok (.slice (some ⟨g2, 0, none⟩) (n + 1) c2) w' ∧ w'.ownsRow B T 5 (.slice (some ⟨g2, 0, none⟩) (n + 1) c2) (n + 1) (xs ++ [u0, u1, u2, u3, u4]) ∧ w.grownBy w' v1.ownBlock ∧ (v1.ownBlock = some g2 ∨ g2 = w.heap.size) := by
  obtain ⟨c0, c1, c2, c3, c4⟩ := hu
  have hnews : ∀ j u, [u0, u1, u2, u3, u4][j]? = some u → w.cell? ((⟨b, 0, none⟩ : Addr).add j) = some u := by
    intro j u hj
    rw [add_none j rfl, Nat.zero_add]
    match j, hj with
    | 0, hj => simp at hj; rw [← hj]; exact c0
    | 1, hj => simp at hj; rw [← hj]; exact c1
    | 2, hj => simp at hj; rw [← hj]; exact c2
    | 3, hj => simp at hj; rw [← hj]; exact c3
    | 4, hj => simp at hj; rw [← hj]; exact c4
    | j + 5, hj => simp at hj
  have h1 : ∀ u ∈ [u0, u1, u2, u3, u4], u.oneCell' = true := by
    obtain ⟨k0, k1, k2, k3, k4⟩ := hone
    intro u hu
    simp only [List.mem_cons, List.not_mem_nil, or_false] at hu
    rcases hu with rfl | rfl | rfl | rfl | rfl <;> assumption
  obtain ⟨v', w', hr, ho', hg, hv, hob⟩ := run_append_own_at (P := Tryz.prog) w B t t T i z 5 bytes ht hi hz hs hb hzs (by omega) v1 n xs ho ⟨b, 0, none⟩ 1 1 [u0, u1, u2, u3, u4] rfl hnews h1 (by unfold maxLen; omega) (by have : (n + 1) * bytes ≤ 1001 * 1000 := Nat.mul_le_mul (by omega) hbs; omega) hB
  rcases ho'.2 with ⟨_, h0⟩ | ⟨g2, cap, cur, rfl, hbg, _⟩
  · omega
  · refine ⟨g2, cap, w', hr, ho', hg, ?_⟩
    rcases hob with e | e
    · left; exact e.symm
    · right; exact Option.some.inj (show some g2 = some w.heap.size from e)
theorem own_setO {w : World} {B size g n c p o : Nat} {T : TypeId} {xs : List Value} {v : Value} (h : w.ownsRow B T size (.slice (some ⟨g, 0, none⟩) n c) n xs) (hn : g ≠ p) : (w.setCell ⟨p, o, none⟩ v).ownsRow B T size (.slice (some ⟨g, 0, none⟩) n c) n xs := by
  refine h.kept (row := some p) ⟨rfl, rfl, rfl, by simp [World.setCell], fun k hk hne => ?_⟩ (.inr (fun e => hn (Option.some.inj (show some g = some p from e))))
  have : k ≠ p := fun e => hne (by rw [e])
  simp [World.setCell, Array.getElem?_modify, Ne.symm this]
/-- Row i of a matrix under construction: the value of its cell. -/
def RowP (w0 w : World) (gO : Nat) (L : Nat) (f : Nat → Cx) (v : Value) (g : Nat) : Prop :=
  (L = 0 ∧ v = .slice none 0 0) ∨ (∃ c xs, 0 < L ∧ v = .slice (some ⟨g, 0, none⟩) L c ∧ g ≠ gO ∧ w.ownsRow w0.heap.size 45 5 v L xs ∧ ∀ j, j < L → PE w g (j * 5) (f j))
/-- A matrix under construction: row i has L i numbers. -/
def BldP (w0 : World) (gO n : Nat) (L : Nat → Nat) (f : Nat → Nat → Cx) (w : World) : Prop :=
  w0.heap.size ≤ gO ∧ gO < w.heap.size ∧ (∃ F, w.rowIs gO 28 n F) ∧
  (∃ (V : Nat → Value) (G : Nat → Nat), (∀ i, i < n → w.cell? ⟨gO, i, none⟩ = some (V i) ∧ RowP w0 w gO (L i) (f i) (V i) (G i)) ∧ ∀ i k, i < n → k < n → 0 < L i → 0 < L k → G i = G k → i = k) ∧ Below w0.heap.size w0 w
theorem RowP.to {w0 w w' : World} {gO L g : Nat} {f : Nat → Cx} {v : Value} (h : RowP w0 w gO L f v g) (hb : Below w.heap.size w w') : RowP w0 w' gO L f v g := by
  rcases h with h | ⟨c, xs, h1, h2, h3, h4, h5⟩
  · exact .inl h
  · exact .inr ⟨c, xs, h1, h2, h3, h4.kept (row := none) ⟨hb.os, hb.tape, hb.output, hb.size, fun k hk _ => hb.block k hk⟩ (by cases v.ownBlock <;> simp), fun j hj => (h5 j hj).to hb⟩
theorem BldP.to {w0 w w' : World} {gO n : Nat} {L : Nat → Nat} {f : Nat → Nat → Cx} (h : BldP w0 gO n L f w) (hb : Below w.heap.size w w') : BldP w0 gO n L f w' := by
  obtain ⟨h1, h2, ⟨F, h3⟩, ⟨V, G, h4, h5⟩, h6⟩ := h
  exact ⟨h1, Nat.lt_of_lt_of_le h2 hb.size, ⟨F, h3.of_block (hb.block gO h2)⟩, ⟨V, G, fun i hi => ⟨keepc hb (h4 i hi).1 h2, (h4 i hi).2.to hb⟩, h5⟩, h6.trans (hb.mono h6.size)⟩
theorem RowP.lt {w0 w : World} {gO L g : Nat} {f : Nat → Cx} {v : Value} (h : RowP w0 w gO L f v g) (hL : 0 < L) : g < w.heap.size := by
  rcases h with h | ⟨c, xs, h1, h2, h3, h4, h5⟩
  · omega
  · exact (h5 0 h1).lt
/-- A fresh matrix. -/
theorem BldP.new {w : World} {n : Nat} {f : Nat → Nat → Cx} : BldP w w.heap.size n (fun _ => 0) f (mkS w n 28) := by
  have h := mkS_row w n 28
  exact ⟨Nat.le_refl _, by rw [mkS_size]; omega, ⟨_, h⟩, ⟨fun _ => .slice none 0 0, fun _ => 0, fun i hi => ⟨h.cell hi, .inl ⟨rfl, rfl⟩⟩, fun i k _ _ h => absurd h (Nat.lt_irrefl 0)⟩, mkS_below _ _ _⟩
theorem BldP.fin {w0 w : World} {gO n : Nat} {L : Nat → Nat} {f : Nat → Nat → Cx} (h : BldP w0 gO n L f w) : MatP w (some ⟨gO, 0, none⟩) n L f ∧ Below w0.heap.size w0 w := by
  obtain ⟨h1, h2, _, ⟨V, G, h4, _⟩, h6⟩ := h
  have each : ∀ i, ∃ z : Option Addr × Nat, i < n → (w.cell? ⟨gO, i, none⟩ = some (.slice z.1 (L i) z.2) ∧ ∀ j, j < L i → ∃ g, z.1 = some ⟨g, 0, none⟩ ∧ PE w g (j * 5) (f i j)) := by
    intro i
    by_cases hi : i < n
    · obtain ⟨hc, hr⟩ := h4 i hi
      rcases hr with ⟨e, e2⟩ | ⟨c, xs, k1, k2, k3, k4, k5⟩
      · exact ⟨(none, 0), fun _ => ⟨by rw [hc, e2, e], fun j hj => absurd hj (by omega)⟩⟩
      · exact ⟨(some ⟨G i, 0, none⟩, c), fun _ => ⟨by rw [hc, k2], fun j hj => ⟨G i, rfl, k5 j hj⟩⟩⟩
    · exact ⟨(none, 0), fun h => absurd h hi⟩
  obtain ⟨z, hz⟩ := Classical.skolem.1 each
  exact ⟨⟨fun i => (z i).1, fun i => (z i).2, fun i hi => ⟨gO, 0, rfl, h2, by rw [Nat.zero_add]; exact (hz i hi).1⟩, fun i hi j hj => (hz i hi).2 j hj⟩, h6⟩
/-- The lengths behind an append to row k. -/
def more (L : Nat → Nat) (k : Nat) : Nat → Nat := fun i => if i = k then L k + 1 else L i
theorem BldP.push {w0 W : World} {gO n k : Nat} {L : Nat → Nat} {f : Nat → Nat → Cx} (h : BldP w0 gO n L f W) (hk : k < n) (hl : L k ≤ 1000) :
    ∃ v1, W.cell? ⟨gO, k, none⟩ = some v1 ∧ gO < W.heap.size ∧ ∀ (w : World) (b : Nat), Below W.heap.size W w → W.heap.size ≤ b → PE w b 0 (f k (L k)) →
      ∃ v' w', (Builtin.append_ #[28, 28] 28 #[v1, .slice (some ⟨b, 0, none⟩) 1 1]).run Tryz.prog w = .ok v' w' ∧ (∃ v0, w'.cell? ⟨gO, k, none⟩ = some v0) ∧ w'.frozen? ⟨gO, k, none⟩ = false ∧ (∃ (S : Option Addr) (a b : Nat), v' = .slice S a b) ∧ BldP w0 gO n (more L k) f (w'.setCell ⟨gO, k, none⟩ v') := by
  have hW := h
  obtain ⟨_, a2, _, ⟨V0, G0, a4, _⟩, _⟩ := hW
  refine ⟨V0 k, (a4 k hk).1, a2, fun w b hb hbz hpe => ?_⟩
  have hV0 := (a4 k hk).1
  have hlt0 : ∀ i, i < n → 0 < L i → ∃ V G, W.cell? ⟨gO, i, none⟩ = some V ∧ RowP w0 W gO (L i) (f i) V G ∧ G < W.heap.size := fun i hi h0 => ⟨_, _, (a4 i hi).1, (a4 i hi).2, (a4 i hi).2.lt h0⟩
  obtain ⟨h1, h2, ⟨F, h3⟩, ⟨V, G, h4, h5⟩, h6⟩ := h
  have hsz : W.heap.size ≤ w.heap.size := hb.size
  have hG : ∀ i, i < n → 0 < L i → G i < W.heap.size := fun i hi h0 => (h4 i hi).2.lt h0
  have eV : V0 k = V k := by have := (h4 k hk).1; rw [hV0] at this; exact Option.some.inj this
  rw [eV]
  -- at w
  have r3 := h3.of_block (hb.block gO h2)
  have r4 : ∀ i, i < n → w.cell? ⟨gO, i, none⟩ = some (V i) ∧ RowP w0 w gO (L i) (f i) (V i) (G i) := fun i hi => ⟨keepc hb (h4 i hi).1 h2, (h4 i hi).2.to hb⟩
  have r6 : Below w0.heap.size w0 w := h6.trans (hb.mono h6.size)
  obtain ⟨ti, ki, kz, ks, kb⟩ := info_parts Tryz.info_num
  obtain ⟨A1, A2, A3, cs, nn⟩ := hpe
  have hown : ∃ xs, w.ownsRow w0.heap.size 45 5 (V k) (L k) xs := by
    rcases (r4 k hk).2 with ⟨e1, e2⟩ | ⟨c, xs, _, _, _, k4, _⟩
    · exact ⟨[], by simp [e1], .inl ⟨e2, e1⟩⟩
    · exact ⟨xs, k4⟩
  obtain ⟨xs, hown⟩ := hown
  obtain ⟨g2, c2, w', er, o2, hg, hob⟩ := push_row (b := b) Tryz.und_nums ki kz ks kb (by omega) rfl hown r6.size hl cs ⟨rfl, rfl, rfl, rfl, rfl⟩
  -- what the row's old block is
  have hrow : (L k = 0 ∧ (V k).ownBlock = none) ∨ (0 < L k ∧ (V k).ownBlock = some (G k) ∧ G k ≠ gO ∧ ∃ c, w.cell? ⟨G k, 0, none⟩ = some (.bool c)) := by
    rcases (r4 k hk).2 with ⟨e1, e2⟩ | ⟨c, ys, k1, k2, k3, k4, k5⟩
    · exact .inl ⟨e1, by rw [e2]; rfl⟩
    · obtain ⟨_, _, _, ⟨c0, _⟩, _⟩ := k5 0 k1
      rw [Nat.zero_mul] at c0
      exact .inr ⟨k1, by rw [k2]; rfl, k3, _, c0⟩
  have natk : ∀ {A : Option Addr} {m : Nat}, Nat32 w A m → Nat32 w' A m := by
    intro A m hm
    rcases hrow with ⟨_, e⟩ | ⟨_, e, _, c, hc⟩
    · rw [e] at hg
      intro h0
      obtain ⟨p, e1, e2, e3⟩ := hm h0
      exact ⟨p, e1, Nat.lt_of_lt_of_le e2 hg.size, fun j hj => hg.cell (e3 j hj) (by simp)⟩
    · rw [e] at hg
      exact grow_nat hg hc hm
  have numk : ∀ {A B C : Option Addr} {q : Cx}, Num3 w A B C q → Num3 w' A B C q := fun h => ⟨natk h.1, natk h.2.1, natk h.2.2⟩
  have far : ∀ p, p < w.heap.size → (0 < L k → p ≠ G k) → some p ≠ (V k).ownBlock := by
    intro p _ hne
    rcases hrow with ⟨_, e⟩ | ⟨e0, e, _⟩
    · rw [e]; simp
    · rw [e]; intro e2; exact hne e0 (Option.some.inj e2)
  have hgO : some gO ≠ (V k).ownBlock := far gO (by omega) (fun h0 => by
    rcases hrow with ⟨e, _⟩ | ⟨_, _, e, _⟩
    · omega
    · exact Ne.symm e)
  have g2ne : g2 ≠ gO := by
    rcases hob with e | e
    · rcases hrow with ⟨_, e2⟩ | ⟨_, e2, e3, _⟩
      · rw [e2] at e; cases e
      · rw [e2] at e; rw [← Option.some.inj e]; exact e3
    · omega
  have cellk : ∀ i, i < n → w'.cell? ⟨gO, i, none⟩ = some (V i) := fun i hi => hg.cell (r4 i hi).1 hgO
  have fzk : w'.frozen? ⟨gO, k, none⟩ = false := (World.frozen?_of_block (a := ⟨gO, k, none⟩) (hg.block gO (by omega) hgO)).trans (r3.frozen k)
  have r3' : w'.rowIs gO 28 n F := r3.of_block (hg.block gO (by omega) hgO)
  have hs0 : ∃ (S : Option Addr) (a b : Nat), w'.cell? ⟨gO, 0, none⟩ = some (.slice S a b) := by
    have := cellk 0 (by omega)
    rcases (r4 0 (by omega)).2 with ⟨_, e2⟩ | ⟨c, _, _, k2, _⟩
    · exact ⟨_, _, _, by rw [this, e2]⟩
    · exact ⟨_, _, _, by rw [this, k2]⟩
  obtain ⟨S, sa, sb, hS⟩ := hs0
  have newrow : ∀ j, j < L k + 1 → PE w' g2 (j * 5) (f k j) := by
    intro j hj
    by_cases e : j = L k
    · subst e
      have hxl := hown.1
      have hnew : ∀ m, m < 5 → w'.cell? ⟨g2, L k * 5 + m, none⟩ = ([.bool (sn (na (f k (L k)))), .slice A1 (ln (ab (na (f k (L k))))) (ln (ab (na (f k (L k))))), .bool (sn (nb (f k (L k)))), .slice A2 (ln (ab (nb (f k (L k))))) (ln (ab (nb (f k (L k))))), .slice A3 (ln (un (f k (L k)))) (ln (un (f k (L k))))] : List Value)[m]? := by
        intro m hm
        rw [own_cell o2 (by omega), List.getElem?_append_right (by omega), hxl, Nat.add_sub_cancel_left]
      exact ⟨A1, A2, A3, ⟨hnew 0 (by omega), hnew 1 (by omega), hnew 2 (by omega), hnew 3 (by omega), hnew 4 (by omega)⟩, numk nn⟩
    · rcases (r4 k hk).2 with ⟨e1, _⟩ | ⟨c, ys, k1, k2, k3, k4, k5⟩
      · omega
      · obtain ⟨B1, B2, B3, ⟨d0, d1, d2, d3, d4⟩, m3⟩ := k5 j (by omega)
        have hxl := hown.1
        rw [k2] at hown
        have old : ∀ m, m < L k * 5 → w'.cell? ⟨g2, m, none⟩ = w.cell? ⟨G k, m, none⟩ := by
          intro m hm
          rw [own_cell o2 (by omega), List.getElem?_append_left (by omega), own_cell hown hm]
        exact ⟨B1, B2, B3, ⟨(old _ (by omega)).trans d0, (old _ (by omega)).trans d1, (old _ (by omega)).trans d2, (old _ (by omega)).trans d3, (old _ (by omega)).trans d4⟩, numk m3⟩
  have u0 := r3'.cell hk
  refine ⟨.slice (some ⟨g2, 0, none⟩) (L k + 1) c2, w', er, ⟨_, cellk k hk⟩, fzk, ⟨_, _, _, rfl⟩, h1, ?_, ⟨_, r3'.set _ _⟩, ⟨fun i => if i = k then .slice (some ⟨g2, 0, none⟩) (L k + 1) c2 else V i, fun i => if i = k then g2 else G i, fun i hi => ?_, fun i m hi hm hli hlm he => ?_⟩, ?_⟩
  · have := hg.size
    simp [World.setCell]
    omega
  · by_cases e : i = k
    · subst e
      simp only [if_pos]
      refine ⟨cell_self (cellk i hi), ?_⟩
      have hm : more L i i = L i + 1 := by simp [more]
      rw [hm]
      exact .inr ⟨c2, _, Nat.succ_pos _, rfl, g2ne, own_setO o2 g2ne, fun j hj => (newrow j hj).setS g2ne hS⟩
    · simp only [if_neg e]
      refine ⟨keepo (cellk i hi) (.inr (by omega)), ?_⟩
      have hm : more L k i = L i := by simp [more, e]
      rw [hm]
      rcases (r4 i hi).2 with hnil | ⟨c, ys, k1, k2, k3, k4, k5⟩
      · exact .inl hnil
      · have hne : some (G i) ≠ (V k).ownBlock := far (G i) (Nat.lt_of_lt_of_le (hG i hi k1) hsz) (fun h0 e2 => e (h5 i k hi hk k1 h0 e2))
        have hob2 : (V i).ownBlock = some (G i) := by rw [k2]; rfl
        refine .inr ⟨c, ys, k1, k2, k3, ?_, fun j hj => ?_⟩
        · have := k4.kept hg (by rw [hob2]; exact .inr hne)
          rw [k2] at this ⊢
          exact own_setO this k3
        · obtain ⟨B1, B2, B3, ⟨d0, d1, d2, d3, d4⟩, m3⟩ := k5 j hj
          have hpe2 : PE w' (G i) (j * 5) (f i j) := ⟨B1, B2, B3, ⟨hg.cell d0 hne, hg.cell d1 hne, hg.cell d2 hne, hg.cell d3 hne, hg.cell d4 hne⟩, numk m3⟩
          exact hpe2.setS k3 hS
  · by_cases ei : i = k <;> by_cases em : m = k
    · omega
    · subst ei
      simp only [if_pos, if_neg em] at he
      simp only [more, if_neg em] at hlm
      exfalso
      rcases hob with e | e
      · rcases hrow with ⟨_, e2⟩ | ⟨e0, e2, _⟩
        · rw [e2] at e; cases e
        · rw [e2] at e; exact em (h5 i m hi hm e0 hlm (by rw [Option.some.inj e]; exact he)).symm
      · have := hG m hm hlm; omega
    · subst em
      simp only [if_pos, if_neg ei] at he
      simp only [more, if_neg ei] at hli
      exfalso
      rcases hob with e | e
      · rcases hrow with ⟨_, e2⟩ | ⟨e0, e2, _⟩
        · rw [e2] at e; cases e
        · rw [e2] at e; exact ei (h5 i m hi hm hli e0 (by rw [Option.some.inj e]; exact he))
      · have := hG i hi hli; omega
    · simp only [if_neg ei, if_neg em] at he
      simp only [more, if_neg ei] at hli
      simp only [more, if_neg em] at hlm
      exact h5 i m hi hm hli hlm he
  · refine Below.setCell ?_ h1 _
    refine r6.grown hg r6.size (fun p hp => ?_)
    rcases hrow with ⟨_, e⟩ | ⟨e0, e, _⟩
    · rw [e] at hp; cases hp
    · rcases (r4 k hk).2 with ⟨e1, _⟩ | ⟨c, ys, k1, k2, k3, k4, k5⟩
      · omega
      · rw [e] at hp
        have := Option.some.inj hp
        subst this
        rw [k2] at k4
        rcases k4.2 with ⟨e3, _⟩ | ⟨g', cap, cur, e3, hbg, _⟩
        · cases e3
        · injection e3 with e3; injection e3 with e3; injection e3 with e3; omega
/-- A new slice of one number. -/
def BoxN (z : Nat) (w : World) (u : Value) (q : Cx) : Prop := ∃ b, u = .slice (some ⟨b, 0, none⟩) 1 1 ∧ PE w b 0 q ∧ z ≤ b
theorem BoxN.to {z : Nat} {w w' : World} {u : Value} {q : Cx} (h : BoxN z w u q) (hb : Below w.heap.size w w') : BoxN z w' u q := by
  obtain ⟨b, e, h1, h2⟩ := h; exact ⟨b, e, h1.to hb, h2⟩
theorem BoxN.new {z : Nat} {w : World} {q : Cx} {A1 A2 A3 : Option Addr} {T : TypeId} (n : Num3 w A1 A2 A3 q) (hz : z ≤ w.heap.size) : BoxN z (w.alloc (.cells #[.bool (sn (na q)), .slice A1 (ln (ab (na q))) (ln (ab (na q))), .bool (sn (nb q)), .slice A2 (ln (ab (nb q))) (ln (ab (nb q))), .slice A3 (ln (un q)) (ln (un q))] T)) (.slice (some ⟨w.heap.size, 0, none⟩) 1 1) q :=
  ⟨_, rfl, ⟨A1, A2, A3, ⟨by go_simp, by go_simp, by go_simp, by go_simp, by go_simp⟩, n.1.alloc _, n.2.1.alloc _, n.2.2.alloc _⟩, hz⟩
/-- Between the append and the store. -/
def MidP (w0 : World) (gO n k : Nat) (L : Nat → Nat) (f : Nat → Nat → Cx) (v' : Value) (w : World) : Prop := (∃ v0, w.cell? ⟨gO, k, none⟩ = some v0) ∧ w.frozen? ⟨gO, k, none⟩ = false ∧ (∃ (S : Option Addr) (a b : Nat), v' = .slice S a b) ∧ BldP w0 gO n (more L k) f (w.setCell ⟨gO, k, none⟩ v')
end Go.Proofs.YtdpjknjlhchmcaaGreat

namespace Go.Proofs.YtdpjknjlhchmcaaGreat
open Go.RowKit Pl
set_option linter.unusedVariables false
set_option linter.unusedSimpArgs false
/-- What a call that makes a matrix hands back: the matrix and no error. -/
def RetMatE (w : World) (n : Nat) (N : Nat → Nat) (f : Nat → Nat → Cx) (e : Ending) (w' : World) : Prop := ∃ A c, e = .returned (.tuple #[.slice A n c, .int .i64 0]) ∧ MatP w' A n N f ∧ Below w.heap.size w w'
/-- .. or no matrix and an error. -/
def RetErrE (w : World) (k : Int) (e : Ending) (w' : World) : Prop := e = .returned (.tuple #[.slice none 0 0, .int .i64 k]) ∧ Below w.heap.size w w'
set_option maxRecDepth 100000 in
set_option maxHeartbeats 4000000 in
theorem adjoint_no (w : World) (A : Option Addr) (n c : Nat) (N : Nat → Nat) (f : Nat → Nat → Cx) (hM : MatP w A n N f) (hn : n ≤ 1000) (hN : ∀ i, i < n → N i ≤ 1000) (hV : ¬ Valid n N) :
    Calls Tryz.prog 25 #[.slice A n c] w (RetErrE w 4) := by
  obtain ⟨R, K, hG, _⟩ := hM
  have hok : (false : Bool) = true ↔ Valid n N := ⟨(fun h => by cases h), fun h => absurd h hV⟩
  have HC := columns_any w A n c R N K hG hn hN false hok
  clear hG hn hN hV hok
  go_enter Tryz.func25, Tryz.ntmps25
  go_wp2_with fail
  refine HC.mono ?_
  rintro e w1 ⟨rfl, hb⟩
  go_wp2_with fail
  exact bodyPost_ret (v := .tuple #[.slice none 0 0, .int .i64 4]) (by simp [results, Tryz.results25, go_sem]) rfl ⟨rfl, hb⟩
set_option maxRecDepth 100000 in
set_option maxHeartbeats 40000000 in
theorem adjoint_ok (w : World) (A : Option Addr) (n c : Nat) (N : Nat → Nat) (f : Nat → Nat → Cx) (hM : MatP w A n N f) (hn : n ≤ 1000) (hN : ∀ i, i < n → N i ≤ 1000) (hV : Valid n N) :
    Calls Tryz.prog 25 #[.slice A n c] w (RetMatE w (colN n N) (fun _ => n) fun i j => (f j i).conj) := by
  obtain ⟨F, hF⟩ : ∃ F : Nat → Nat → Cx, F = fun i j => (f j i).conj := ⟨_, rfl⟩
  rw [← hF]
  have hok : (true : Bool) = true ↔ Valid n N := ⟨fun _ => hV, fun _ => rfl⟩
  have HM := Lib.hid hM
  obtain ⟨R, K, hG, _⟩ := hM
  have HC := columns_any w A n c R N K hG hn hN true hok
  have hrow : ∀ j, j < n → N j = colN n N := by
    intro j hj
    unfold colN
    rw [if_neg (by omega)]
    rcases hV with h | ⟨_, _, h⟩
    · omega
    · exact h j hj
  have hm : colN n N ≤ 1000 := by
    unfold colN
    split
    · omega
    · exact hN 0 (by omega)
  have HR := Lib.hid hrow
  clear hG hN hV hok hrow
  generalize colN n N = m at *
  have hmk := mk_nums2 m (by omega)
  have hm_Conj : ∀ (k : Nat) (v1 v2 v3 v4 v5 : Value) (w : World), (method (k + 1) 45 (.agg #[v1, v2, v3, v4, v5]) "Conj").run Tryz.prog w = .ok (20, .agg #[v1, v2, v3, v4, v5]) w := fun _ _ _ _ _ _ _ => by kernel_rfl
  go_enter Tryz.func25, Tryz.ntmps25
  go_wp2_with fail
  refine HC.mono ?_
  rintro e w1 ⟨rfl, hb1⟩
  go_wp2_with fail
  clear hmk HC
  have hB0 : BldP w1 w1.heap.size m (fun _ => 0) F (mkS w1 m 28) := BldP.new
  have HB1 := Lib.hid hb1
  have HF := Lib.hid hF
  clear hb1 hF
  generalize mkS w1 m 28 = W0 at *
  obtain ⟨gO, hgO⟩ : ∃ g, g = w1.heap.size := ⟨_, rfl⟩
  rw [← hgO] at hB0 ⊢
  clear hgO
  go_loopw [20] (fun i (wr : World) => ∃ k : Nat, k ≤ m ∧ i = .int .i64 k ∧ BldP w1 gO m (fun i => if i < k then n else 0) F wr) (fun i _ => m - (intOf i).toNat)
  case atStart => exact ⟨0, Nat.zero_le _, rfl, by simpa using hB0⟩
  case round =>
    obtain ⟨k, hk, rfl, hB⟩ := hrel
    clear hB0
    by_cases hlt : k < m
    · have hB2 : BldP w1 gO m (fun i => if i < k then n else if i = k then 0 else 0) F wr := by simpa using hB
      clear hB
      go_upto_region 9 with fail
      go_loopw [25] (fun i (wr : World) => ∃ j : Nat, j ≤ n ∧ i = .int .i64 j ∧ BldP w1 gO m (fun i => if i < k then n else if i = k then j else 0) F wr) (fun i _ => n - (intOf i).toNat)
      case atStart => exact ⟨0, Nat.zero_le _, rfl, hB2⟩
      case round =>
        obtain ⟨j, hj, rfl, hB3⟩ := hrel
        clear hB2
        by_cases hlj : j < n
        · obtain ⟨R', K', g1, g2⟩ := (HM.out.to (HB1.out)).to (hB3.fin.2)
          have hNj := HR.out j hlj
          obtain ⟨b, fo, rfl, hl, hc1⟩ := g1 j hlj
          obtain ⟨g, eg, hpe⟩ := g2 j hlj k (by omega)
          rw [eg, hNj] at hc1
          obtain ⟨A1, A2, A3, hcs, hq⟩ := hpe
          have hlg : g < wr.heap.size := World.block_lt_of_cell? wr ⟨g, _, none⟩ hcs.1
          obtain ⟨v1, hv1, hv2, hpush⟩ := hB3.push hlt (by simp; omega)
          obtain ⟨q, hqq⟩ : ∃ q, q = f j k := ⟨_, rfl⟩
          rw [← hqq] at hcs hq
          have hLk : F k ((fun i => if i < k then n else if i = k then j else 0) k) = q.conj := by simp [HF.out, hqq]
          have hmore : more (fun i => if i < k then n else if i = k then j else 0) k = fun i => if i < k then n else if i = k then j + 1 else 0 := by
            funext i; unfold more; by_cases e : i = k
            · subst e; simp
            · simp [e]
          have i1 : (0 : Int) ≤ (k : Int) := by omega
          have i2 : (k : Int) < (m : Int) := by omega
          have i3 : (0 : Int) ≤ (j : Int) := by omega
          have i4 : (j : Int) < (n : Int) := by omega
          clear hB3 g1 g2 hqq eg hNj
          go_upto_region 11 with fail
          refine wp_region_any (by kernel_rfl) ?_
          refine wpAny_inv (fun l a' w' => ∃ V : Nat → Value, ∃ x14 x15 x16 : Value, a' = ⟨#[.slice (some ⟨b, fo, none⟩) n c, undef, .slice none 0 0, .int .i64 0, .int .i64 m, .bool true, .slice (some ⟨gO, 0, none⟩) m m, .int .i64 k, .int .i64 j, .tuple #[.int .i64 m, .bool true], .slice (some ⟨b, fo, none⟩) n c, .tuple #[.int .i64 m, .bool true], .int .i64 m, .bool true, .bool true, .bool false, .int .i64 m, .slice (some ⟨gO, 0, none⟩) m m, .slice (some ⟨gO, 0, none⟩) m m, .int .i64 m, .int .i64 k, .bool true, .int .i64 k, .slice (some ⟨b, fo, none⟩) n c, .int .i64 n, .int .i64 j, .bool true, .int .i64 j, V 0, V 1, V 2, V 3, V 4, V 5, V 6, V 7, V 8, V 9, V 10, V 11, V 12, V 13, x14, x15, x16, V 17, u46, u47, undef], []⟩ ∧ OnFix l V (fun zz => List.getD [.slice (some ⟨gO, 0, none⟩) m m, .int .i64 k, .slice (some ⟨gO, 0, none⟩) m m, .int .i64 k, .pointer (some ⟨gO, k, none⟩), v1, .slice (some ⟨b, fo, none⟩) n c, .int .i64 j, .pointer (some ⟨b, fo + j, none⟩), .slice (some ⟨g, 0, none⟩) m (K' j), .int .i64 k, .pointer (some ⟨g, k * 5, none⟩), .agg #[.bool (sn (na q)), .slice A1 (ln (ab (na q))) (ln (ab (na q))), .bool (sn (nb q)), .slice A2 (ln (ab (nb q))) (ln (ab (nb q))), .slice A3 (ln (un q)) (ln (un q))], .iface 45 (.agg #[.bool (sn (na q)), .slice A1 (ln (ab (na q))) (ln (ab (na q))), .bool (sn (nb q)), .slice A2 (ln (ab (nb q))) (ln (ab (nb q))), .slice A3 (ln (un q)) (ln (un q))]), undef, undef, undef, .pointer (some ⟨gO, k, none⟩), undef] zz undef) [0, 1, 2, 3, 4, 5, 6, 7, 8, 9, 10, 11, 12, 13, 17] ∧ Off l 16 (Below wr.heap.size wr w' ∧ On l 14 (SlotNum w' x14 q.conj) ∧ On l 15 (BoxN wr.heap.size w' x15 q.conj)) ∧ On l 16 (Off l 18 (MidP w1 gO m k (fun i => if i < k then n else if i = k then j else 0) F x16 w')) ∧ On l 18 (BldP w1 gO m (more (fun i => if i < k then n else if i = k then j else 0) k) F w') ∧ Edg l [(16, 5), (16, 15), (15, 14), (14, 13), (13, 12), (12, 11), (11, 9), (18, 16)] ∧ l.size = 19) ?_ ?_ _ _ _ _ (by decide) ?_
          · intro l a' W' i hi hI
            obtain ⟨V, x14, x15, x16, rfl, hv, hZ, hM0, hM1, hE, hz⟩ := hI
            obtain ⟨hlt, hoff, hpre⟩ := ready_pre hi
            have hc : i ∈ [0, 1, 2, 3, 4, 5, 6, 7, 8, 9, 10, 11, 12, 13, 14, 15, 16, 17, 18] := (by decide : ∀ i, i < 19 → i ∈ [0, 1, 2, 3, 4, 5, 6, 7, 8, 9, 10, 11, 12, 13, 14, 15, 16, 17, 18]) i hlt
            simp only [List.mem_cons, List.not_mem_nil, or_false] at hc
            clear hi hlt
            rcases hc with rfl | rfl | rfl | rfl | rfl | rfl | rfl | rfl | rfl | rfl | rfl | rfl | rfl | rfl | rfl | rfl | rfl | rfl | rfl <;> (have hp := hpre _ rfl; simp [Region.binds] at hp; clear hpre)
            · skip
              have HV := Lib.hid hv
              clear hv
              refine wpOp_go rfl rfl (fun K hK => ?_)
              go_simp
              refine hK _ _ ?_
              exact ⟨_, _, _, _, rfl, HV.out.new (x := .slice (some ⟨gO, 0, none⟩) m m) rfl, hZ.keep.map (fun ⟨hb0, y14, y15⟩ => ⟨hb0, y14.keep (by decide), y15.keep (by decide)⟩), (hM0.keep (by decide)).map Off.keep, hM1.keep (by decide), hE.mono (by decide), by simp [hz]⟩
            · skip
              have HV := Lib.hid hv
              clear hv
              refine wpOp_go rfl rfl (fun K hK => ?_)
              go_simp
              refine hK _ _ ?_
              exact ⟨_, _, _, _, rfl, HV.out.new (x := .int .i64 k) rfl, hZ.keep.map (fun ⟨hb0, y14, y15⟩ => ⟨hb0, y14.keep (by decide), y15.keep (by decide)⟩), (hM0.keep (by decide)).map Off.keep, hM1.keep (by decide), hE.mono (by decide), by simp [hz]⟩
            · skip
              have HV := Lib.hid hv
              clear hv
              refine wpOp_go rfl rfl (fun K hK => ?_)
              go_simp
              refine hK _ _ ?_
              exact ⟨_, _, _, _, rfl, HV.out.new (x := .slice (some ⟨gO, 0, none⟩) m m) rfl, hZ.keep.map (fun ⟨hb0, y14, y15⟩ => ⟨hb0, y14.keep (by decide), y15.keep (by decide)⟩), (hM0.keep (by decide)).map Off.keep, hM1.keep (by decide), hE.mono (by decide), by simp [hz]⟩
            · skip
              have HV := Lib.hid hv
              clear hv
              refine wpOp_go rfl rfl (fun K hK => ?_)
              go_simp
              refine hK _ _ ?_
              exact ⟨_, _, _, _, rfl, HV.out.new (x := .int .i64 k) rfl, hZ.keep.map (fun ⟨hb0, y14, y15⟩ => ⟨hb0, y14.keep (by decide), y15.keep (by decide)⟩), (hM0.keep (by decide)).map Off.keep, hM1.keep (by decide), hE.mono (by decide), by simp [hz]⟩
            · skip
              have e2 : V 2 = .slice (some ⟨gO, 0, none⟩) m m := hv.get 2 (by decide) (by simp [hp])
              have e3 : V 3 = .int .i64 k := hv.get 3 (by decide) (by simp [hp])
              have HV := Lib.hid ((hv.fixE e2 rfl).fixE e3 rfl)
              clear hv
              simp only [e2, e3]
              refine wpOp_go rfl rfl (fun K hK => ?_)
              go_simp
              refine hK _ _ ?_
              exact ⟨_, _, _, _, rfl, HV.out.new (x := .pointer (some ⟨gO, k, none⟩)) rfl, hZ.keep.map (fun ⟨hb0, y14, y15⟩ => ⟨hb0, y14.keep (by decide), y15.keep (by decide)⟩), (hM0.keep (by decide)).map Off.keep, hM1.keep (by decide), hE.mono (by decide), by simp [hz]⟩
            · skip
              have e4 : V 4 = .pointer (some ⟨gO, k, none⟩) := hv.get 4 (by decide) (by simp [hp])
              have HV := Lib.hid (hv.fixE e4 rfl)
              clear hv
              simp only [e4]
              have hY := hZ.get (fun h => off hoff (hE.get 16 5 (by decide) h))
              have z := keepc hY.1 hv1 hv2
              refine wpOp_go rfl rfl (fun K hK => ?_)
              go_simp
              refine hK _ _ ?_
              exact ⟨_, _, _, _, rfl, HV.out.new (x := v1) rfl, hZ.keep.map (fun ⟨hb0, y14, y15⟩ => ⟨hb0, y14.keep (by decide), y15.keep (by decide)⟩), (hM0.keep (by decide)).map Off.keep, hM1.keep (by decide), hE.mono (by decide), by simp [hz]⟩
            · skip
              have HV := Lib.hid hv
              clear hv
              refine wpOp_go rfl rfl (fun K hK => ?_)
              go_simp
              refine hK _ _ ?_
              exact ⟨_, _, _, _, rfl, HV.out.new (x := .slice (some ⟨b, fo, none⟩) n c) rfl, hZ.keep.map (fun ⟨hb0, y14, y15⟩ => ⟨hb0, y14.keep (by decide), y15.keep (by decide)⟩), (hM0.keep (by decide)).map Off.keep, hM1.keep (by decide), hE.mono (by decide), by simp [hz]⟩
            · skip
              have HV := Lib.hid hv
              clear hv
              refine wpOp_go rfl rfl (fun K hK => ?_)
              go_simp
              refine hK _ _ ?_
              exact ⟨_, _, _, _, rfl, HV.out.new (x := .int .i64 j) rfl, hZ.keep.map (fun ⟨hb0, y14, y15⟩ => ⟨hb0, y14.keep (by decide), y15.keep (by decide)⟩), (hM0.keep (by decide)).map Off.keep, hM1.keep (by decide), hE.mono (by decide), by simp [hz]⟩
            · skip
              have e6 : V 6 = .slice (some ⟨b, fo, none⟩) n c := hv.get 6 (by decide) (by simp [hp])
              have e7 : V 7 = .int .i64 j := hv.get 7 (by decide) (by simp [hp])
              have HV := Lib.hid ((hv.fixE e6 rfl).fixE e7 rfl)
              clear hv
              simp only [e6, e7]
              refine wpOp_go rfl rfl (fun K hK => ?_)
              go_simp
              refine hK _ _ ?_
              exact ⟨_, _, _, _, rfl, HV.out.new (x := .pointer (some ⟨b, fo + j, none⟩)) rfl, hZ.keep.map (fun ⟨hb0, y14, y15⟩ => ⟨hb0, y14.keep (by decide), y15.keep (by decide)⟩), (hM0.keep (by decide)).map Off.keep, hM1.keep (by decide), hE.mono (by decide), by simp [hz]⟩
            · skip
              have e8 : V 8 = .pointer (some ⟨b, fo + j, none⟩) := hv.get 8 (by decide) (by simp [hp])
              have HV := Lib.hid (hv.fixE e8 rfl)
              clear hv
              simp only [e8]
              have hY := hZ.get (fun h => off hoff (hE.get 11 9 (by decide) (hE.get 12 11 (by decide) (hE.get 13 12 (by decide) (hE.get 14 13 (by decide) (hE.get 15 14 (by decide) (hE.get 16 15 (by decide) h)))))))
              have z := keepc hY.1 hc1 hl
              refine wpOp_go rfl rfl (fun K hK => ?_)
              go_simp
              refine hK _ _ ?_
              exact ⟨_, _, _, _, rfl, HV.out.new (x := .slice (some ⟨g, 0, none⟩) m (K' j)) rfl, hZ.keep.map (fun ⟨hb0, y14, y15⟩ => ⟨hb0, y14.keep (by decide), y15.keep (by decide)⟩), (hM0.keep (by decide)).map Off.keep, hM1.keep (by decide), hE.mono (by decide), by simp [hz]⟩
            · skip
              have HV := Lib.hid hv
              clear hv
              refine wpOp_go rfl rfl (fun K hK => ?_)
              go_simp
              refine hK _ _ ?_
              exact ⟨_, _, _, _, rfl, HV.out.new (x := .int .i64 k) rfl, hZ.keep.map (fun ⟨hb0, y14, y15⟩ => ⟨hb0, y14.keep (by decide), y15.keep (by decide)⟩), (hM0.keep (by decide)).map Off.keep, hM1.keep (by decide), hE.mono (by decide), by simp [hz]⟩
            · skip
              have e9 : V 9 = .slice (some ⟨g, 0, none⟩) m (K' j) := hv.get 9 (by decide) (by simp [hp])
              have e10 : V 10 = .int .i64 k := hv.get 10 (by decide) (by simp [hp])
              have HV := Lib.hid ((hv.fixE e9 rfl).fixE e10 rfl)
              clear hv
              simp only [e9, e10]
              refine wpOp_go rfl rfl (fun K hK => ?_)
              go_simp
              refine hK _ _ ?_
              exact ⟨_, _, _, _, rfl, HV.out.new (x := .pointer (some ⟨g, k * 5, none⟩)) rfl, hZ.keep.map (fun ⟨hb0, y14, y15⟩ => ⟨hb0, y14.keep (by decide), y15.keep (by decide)⟩), (hM0.keep (by decide)).map Off.keep, hM1.keep (by decide), hE.step (by simp [hp]), by simp [hz]⟩
            · skip
              have e11 : V 11 = .pointer (some ⟨g, k * 5, none⟩) := hv.get 11 (by decide) (by simp [hp])
              have HV := Lib.hid (hv.fixE e11 rfl)
              clear hv
              simp only [e11]
              have hY := hZ.get (fun h => off hoff (hE.get 13 12 (by decide) (hE.get 14 13 (by decide) (hE.get 15 14 (by decide) (hE.get 16 15 (by decide) h)))))
              obtain ⟨z0, z1, z2, z3, z4⟩ := hcs
              have y0 := keepc hY.1 z0 hlg; have y1 := keepc hY.1 z1 hlg; have y2 := keepc hY.1 z2 hlg; have y3 := keepc hY.1 z3 hlg; have y4 := keepc hY.1 z4 hlg
              refine wpOp_go rfl rfl (fun K hK => ?_)
              go_simp
              refine hK _ _ ?_
              exact ⟨_, _, _, _, rfl, HV.out.new (x := .agg #[.bool (sn (na q)), .slice A1 (ln (ab (na q))) (ln (ab (na q))), .bool (sn (nb q)), .slice A2 (ln (ab (nb q))) (ln (ab (nb q))), .slice A3 (ln (un q)) (ln (un q))]) rfl, hZ.keep.map (fun ⟨hb0, y14, y15⟩ => ⟨hb0, y14.keep (by decide), y15.keep (by decide)⟩), (hM0.keep (by decide)).map Off.keep, hM1.keep (by decide), hE.step (by simp [hp]), by simp [hz]⟩
            · skip
              have e12 : V 12 = .agg #[.bool (sn (na q)), .slice A1 (ln (ab (na q))) (ln (ab (na q))), .bool (sn (nb q)), .slice A2 (ln (ab (nb q))) (ln (ab (nb q))), .slice A3 (ln (un q)) (ln (un q))] := hv.get 12 (by decide) (by simp [hp])
              have HV := Lib.hid (hv.fixE e12 rfl)
              clear hv
              simp only [e12]
              refine wpOp_go rfl rfl (fun K hK => ?_)
              go_simp
              refine hK _ _ ?_
              exact ⟨_, _, _, _, rfl, HV.out.new (x := .iface 45 (.agg #[.bool (sn (na q)), .slice A1 (ln (ab (na q))) (ln (ab (na q))), .bool (sn (nb q)), .slice A2 (ln (ab (nb q))) (ln (ab (nb q))), .slice A3 (ln (un q)) (ln (un q))])) rfl, hZ.keep.map (fun ⟨hb0, y14, y15⟩ => ⟨hb0, y14.keep (by decide), y15.keep (by decide)⟩), (hM0.keep (by decide)).map Off.keep, hM1.keep (by decide), hE.step (by simp [hp]), by simp [hz]⟩
            · skip
              have e13 : V 13 = .iface 45 (.agg #[.bool (sn (na q)), .slice A1 (ln (ab (na q))) (ln (ab (na q))), .bool (sn (nb q)), .slice A2 (ln (ab (nb q))) (ln (ab (nb q))), .slice A3 (ln (un q)) (ln (un q))]) := hv.get 13 (by decide) (by simp [hp])
              have HV := Lib.hid (hv.fixE e13 rfl)
              clear hv
              simp only [e13]
              have hY := hZ.get (fun h => off hoff (hE.get 15 14 (by decide) (hE.get 16 15 (by decide) h)))
              refine wpOp_go rfl rfl (fun K hK => ?_)
              go_wp2_with (first | (go_at_call 20; refine (conj_any q A1 A2 A3 _ (hq.to hY.1)).mono ?_; rintro e w2 ⟨E1, E2, E3, rfl, hN, hb⟩))
              try refine hK _ _ ?_
              exact ⟨_, _, _, _, rfl, HV.out.other (by decide), Off.new ⟨hY.1.trans (hb.mono hY.1.size), On.new (⟨E1, E2, E3, rfl, hN⟩), ((hY.2.2).keep (by decide)).map (fun h => h.to hb)⟩, fun h => absurd (hE.get 15 14 (by decide) (hE.get 16 15 (by decide) (on_ne h (by decide)))) (off hoff), fun h => absurd (hE.get 15 14 (by decide) (hE.get 16 15 (by decide) (hE.get 18 16 (by decide) (on_ne h (by decide))))) (off hoff), hE.step (by simp [hp]), by simp [hz]⟩
            · skip
              have HV := Lib.hid hv
              clear hv
              have hY := hZ.get (fun h => off hoff (hE.get 16 15 (by decide) h))
              obtain ⟨E1, E2, E3, e0, hN⟩ := hY.2.1.get (by simp [hp])
              subst e0
              refine wpOp_go rfl rfl (fun K hK => ?_)
              go_simp
              refine hK _ _ ?_
              exact ⟨_, _, _, _, rfl, HV.out.other (by decide), Off.new ⟨hY.1.trans ((((Below.refl _ _).alloc (Nat.le_refl _) _)).mono hY.1.size), ((hY.2.1).keep (by decide)).map (fun h => h.to ((Below.refl _ _).alloc (Nat.le_refl _) _)), On.new (BoxN.new hN hY.1.size)⟩, fun h => absurd (hE.get 16 15 (by decide) (on_ne h (by decide))) (off hoff), fun h => absurd (hE.get 16 15 (by decide) (hE.get 18 16 (by decide) (on_ne h (by decide)))) (off hoff), hE.step (by simp [hp]), by simp [hz]⟩
            · skip
              have e5 : V 5 = v1 := hv.get 5 (by decide) (by simp [hp])
              have HV := Lib.hid (hv.fixE e5 rfl)
              clear hv
              simp only [e5]
              have hY := hZ.get (off hoff)
              obtain ⟨bb, e0, hpe, hbb⟩ := hY.2.2.get (by simp [hp])
              subst e0
              obtain ⟨v', w2, er, m1, m2, m3, m4⟩ := hpush W' bb hY.1 hbb (by rw [hLk]; exact hpe)
              refine wpOp_go rfl rfl (fun K hK => ?_)
              refine wp_append_run rfl rfl rfl er ?_
              go_simp
              refine hK _ _ ?_
              exact ⟨_, _, _, _, rfl, HV.out.other (by decide), Off.done (by omega), On.new (Off.new (⟨m1, m2, m3, m4⟩)), fun h => absurd (hE.get 18 16 (by decide) (on_ne h (by decide))) (off hoff), hE.step (by simp [hp]), by simp [hz]⟩
            · skip
              have e0 : V 0 = .slice (some ⟨gO, 0, none⟩) m m := hv.get 0 (by decide) (by simp [hp])
              have e1 : V 1 = .int .i64 k := hv.get 1 (by decide) (by simp [hp])
              have HV := Lib.hid ((hv.fixE e0 rfl).fixE e1 rfl)
              clear hv
              simp only [e0, e1]
              refine wpOp_go rfl rfl (fun K hK => ?_)
              go_simp
              refine hK _ _ ?_
              exact ⟨_, _, _, _, rfl, HV.out.new (x := .pointer (some ⟨gO, k, none⟩)) rfl, hZ.keep.map (fun ⟨hb0, y14, y15⟩ => ⟨hb0, y14.keep (by decide), y15.keep (by decide)⟩), (hM0.keep (by decide)).map Off.keep, hM1.keep (by decide), hE.mono (by decide), by simp [hz]⟩
            · skip
              have e17 : V 17 = .pointer (some ⟨gO, k, none⟩) := hv.get 17 (by decide) (by simp [hp])
              have HV := Lib.hid (hv.fixE e17 rfl)
              clear hv
              simp only [e17]
              have hY := (hM0.get (by simp [hp])).get (off hoff)
              obtain ⟨⟨v0, m1⟩, m2, ⟨S, sa, sb, m3⟩, m4⟩ := hY
              subst m3
              refine wpOp_go rfl rfl (fun K hK => ?_)
              go_simp
              refine hK _ _ ?_
              exact ⟨_, _, _, _, rfl, HV.out.other (by decide), fun h => absurd (on_mono (by simp [hp])) h, (hM0.keep (by decide)).map (fun _ => Off.done (by omega)), On.new (m4), hE.step (by simp [hp]), by simp [hz]⟩
          · intro l a' W' hr hI
            obtain ⟨V, x14, x15, x16, rfl, hv, hZ, hM0, hM1, hE, hz⟩ := hI
            have a0 := not_ready (i := 0) hr hz rfl (by simp [Region.binds])
            have a1 := not_ready (i := 1) hr hz rfl (by simp [Region.binds, a0])
            have a2 := not_ready (i := 2) hr hz rfl (by simp [Region.binds, a0, a1])
            have a3 := not_ready (i := 3) hr hz rfl (by simp [Region.binds, a0, a1, a2])
            have a4 := not_ready (i := 4) hr hz rfl (by simp [Region.binds, a0, a1, a2, a3])
            have a5 := not_ready (i := 5) hr hz rfl (by simp [Region.binds, a0, a1, a2, a3, a4])
            have a6 := not_ready (i := 6) hr hz rfl (by simp [Region.binds, a0, a1, a2, a3, a4, a5])
            have a7 := not_ready (i := 7) hr hz rfl (by simp [Region.binds, a0, a1, a2, a3, a4, a5, a6])
            have a8 := not_ready (i := 8) hr hz rfl (by simp [Region.binds, a0, a1, a2, a3, a4, a5, a6, a7])
            have a9 := not_ready (i := 9) hr hz rfl (by simp [Region.binds, a0, a1, a2, a3, a4, a5, a6, a7, a8])
            have a10 := not_ready (i := 10) hr hz rfl (by simp [Region.binds, a0, a1, a2, a3, a4, a5, a6, a7, a8, a9])
            have a11 := not_ready (i := 11) hr hz rfl (by simp [Region.binds, a0, a1, a2, a3, a4, a5, a6, a7, a8, a9, a10])
            have a12 := not_ready (i := 12) hr hz rfl (by simp [Region.binds, a0, a1, a2, a3, a4, a5, a6, a7, a8, a9, a10, a11])
            have a13 := not_ready (i := 13) hr hz rfl (by simp [Region.binds, a0, a1, a2, a3, a4, a5, a6, a7, a8, a9, a10, a11, a12])
            have a14 := not_ready (i := 14) hr hz rfl (by simp [Region.binds, a0, a1, a2, a3, a4, a5, a6, a7, a8, a9, a10, a11, a12, a13])
            have a15 := not_ready (i := 15) hr hz rfl (by simp [Region.binds, a0, a1, a2, a3, a4, a5, a6, a7, a8, a9, a10, a11, a12, a13, a14])
            have a16 := not_ready (i := 16) hr hz rfl (by simp [Region.binds, a0, a1, a2, a3, a4, a5, a6, a7, a8, a9, a10, a11, a12, a13, a14, a15])
            have a17 := not_ready (i := 17) hr hz rfl (by simp [Region.binds, a0, a1, a2, a3, a4, a5, a6, a7, a8, a9, a10, a11, a12, a13, a14, a15, a16])
            have a18 := not_ready (i := 18) hr hz rfl (by simp [Region.binds, a0, a1, a2, a3, a4, a5, a6, a7, a8, a9, a10, a11, a12, a13, a14, a15, a16, a17])
            have hY := hM1.get a18
            clear hr hz hv hZ a0 a1 a2 a3 a4 a5 a6 a7 a8 a9 a10 a11 a12 a13 a14 a15 a16 a17 a18 hM0 hM1 hE
            go_wp2_with fail
            go_roundw
            case rel => exact ⟨j + 1, by omega, by go_num, by rw [← hmore]; exact hY⟩
            case measure => simp [intOf]; omega
          · exact ⟨fun zz => List.getD [u28, u29, u30, u31, u32, u33, u34, u35, u36, u37, u38, u39, u40, u41, u42, u43, u44, u45, undef] zz undef, _, _, _, rfl, OnFix.start, Off.new ⟨((Below.refl _ _).drew), fun h => absurd h (by decide), fun h => absurd h (by decide)⟩, fun h => absurd h (by decide), fun h => absurd h (by decide), Edg.start, by simp⟩
        · obtain rfl : j = n := by omega
          go_wp2_with fail
          go_roundw
          case rel => exact ⟨k + 1, by omega, by go_num, by
            have e : (fun i => if i < k + 1 then j else 0) = fun i => if i < k then j else if i = k then j else 0 := by
              funext i; by_cases h1 : i < k
              · simp [h1, Nat.lt_succ_of_lt h1]
              · by_cases h2 : i = k
                · subst h2; simp
                · have : ¬ i < k + 1 := by omega
                  simp [h1, h2, this]
            rw [e]; exact hB3⟩
          case measure => simp [intOf]; omega
    · obtain rfl : k = m := by omega
      go_wp2_with fail
      obtain ⟨h1, h2⟩ := hB.fin
      exact bodyPost_ret (v := .tuple #[.slice (some ⟨gO, 0, none⟩) k k, .int .i64 0]) (by simp [results, Tryz.results25, go_sem]) rfl ⟨_, _, rfl, by
        obtain ⟨R, K, g1, g2⟩ := h1
        exact ⟨R, K, fun i hi => by have := g1 i hi; simpa [hi] using this, fun i hi j hj => g2 i hi j (by simpa [hi] using hj)⟩, HB1.out.trans (h2.mono HB1.out.size)⟩
end Go.Proofs.YtdpjknjlhchmcaaGreat

namespace Go.Proofs.YtdpjknjlhchmcaaGreat
open Go.RowKit Pl
set_option linter.unusedVariables false
set_option linter.unusedSimpArgs false
def RetMatQE (w : World) (n : Nat) (N : Nat → Nat) (f : Nat → Nat → Cx) (e : Ending) (w' : World) : Prop := ∃ A c, e = .returned (.tuple #[.slice A n c, .int .i64 0]) ∧ MatQ w' A n N f ∧ Below w.heap.size w w'
theorem MkQ.cong {w0 w : World} {gO n m r : Nat} {D D' : Nat → Nat → Prop} {f f' : Nat → Nat → Cx} (h : MkQ w0 gO n m r D f w) (hd : ∀ i k, i < r → k < m → D' i k → D i k ∧ f' i k = f i k) : MkQ w0 gO n m r D' f' w := by
  obtain ⟨h1, h2, h3, ⟨G, h4, h5, h6⟩, h7⟩ := h
  exact ⟨h1, h2, h3, ⟨G, fun i hi hr => by
    obtain ⟨a1, a2, a3, a4, a5, a6⟩ := h4 i hi hr
    exact ⟨a1, a2, a3, a4, a5, fun k hk hk2 => by rw [(hd i k hr hk hk2).2]; exact a6 k hk (hd i k hr hk hk2).1⟩, h5, h6⟩, h7⟩
theorem MkQ.below {w0 w : World} {gO n m r : Nat} {D : Nat → Nat → Prop} {f : Nat → Nat → Cx} (h : MkQ w0 gO n m r D f w) : Below w0.heap.size w0 w := h.2.2.2.2
/-- An element of a matrix of the reference. -/
theorem MatQ.at {w : World} {A : Option Addr} {n : Nat} {N : Nat → Nat} {f : Nat → Nat → Cx} (h : MatQ w A n N f) {i j m : Nat} (hi : i < n) (hj : j < m) (hm : N i = m) :
    ∃ b fo g K' A1 A2 A3 k1 k2 k3, A = some ⟨b, fo, none⟩ ∧ b < w.heap.size ∧ w.cell? ⟨b, fo + i, none⟩ = some (.slice (some ⟨g, 0, none⟩) m K') ∧ g < w.heap.size ∧
      (w.cell? ⟨g, j * 5, none⟩ = some (.bool (sn (na (f i j)))) ∧ w.cell? ⟨g, j * 5 + 1, none⟩ = some (.slice A1 (ln (ab (na (f i j)))) k1) ∧ w.cell? ⟨g, j * 5 + 2, none⟩ = some (.bool (sn (nb (f i j)))) ∧ w.cell? ⟨g, j * 5 + 3, none⟩ = some (.slice A2 (ln (ab (nb (f i j)))) k2) ∧ w.cell? ⟨g, j * 5 + 4, none⟩ = some (.slice A3 (ln (nd (f i j))) k3)) ∧ Num3C w A1 A2 A3 (f i j) := by
  obtain ⟨R, K, h1, h2⟩ := h
  obtain ⟨b, fo, e, hl, hc⟩ := h1 i hi
  obtain ⟨g, eg, A1, A2, A3, k1, k2, k3, hcs, hq⟩ := h2 i hi j (by omega)
  exact ⟨b, fo, g, K i, A1, A2, A3, k1, k2, k3, e, hl, by rw [hc, eg, hm], World.block_lt_of_cell? w ⟨g, _, none⟩ hcs.1, hcs, hq⟩
theorem valid_colN {n : Nat} {N : Nat → Nat} (hV : Valid n N) : ∀ j, j < n → N j = colN n N := by
  intro j hj
  unfold colN
  rw [if_neg (by omega)]
  rcases hV with h | ⟨_, _, h⟩
  · omega
  · exact h j hj
theorem colN_le {n : Nat} {N : Nat → Nat} (hN : ∀ i, i < n → N i ≤ 1000) : colN n N ≤ 1000 := by
  unfold colN
  split
  · omega
  · exact hN 0 (by omega)
set_option maxRecDepth 100000 in
set_option maxHeartbeats 4000000 in
theorem radjoint_no (w : World) (A : Option Addr) (n c : Nat) (N : Nat → Nat) (f : Nat → Nat → Cx) (hM : MatQ w A n N f) (hn : n ≤ 1000) (hN : ∀ i, i < n → N i ≤ 1000) (hV : ¬ Valid n N) :
    Calls Tryz.prog 26 #[.slice A n c] w (RetErrE w 4) := by
  obtain ⟨R, K, hG, _⟩ := hM
  have hok : (false : Bool) = true ↔ Valid n N := ⟨(fun h => by cases h), fun h => absurd h hV⟩
  have HC := rvalid_any w A n c R N K hG hn hN false hok
  clear hG hn hN hV hok
  go_enter Tryz.func26, Tryz.ntmps26
  go_wp2_with fail
  refine HC.mono ?_
  rintro e w1 ⟨rfl, hb⟩
  go_wp2_with fail
  exact bodyPost_ret (v := .tuple #[.slice none 0 0, .int .i64 4]) (by simp [results, Tryz.results26, go_sem]) rfl ⟨rfl, hb⟩
set_option maxRecDepth 100000 in
set_option maxHeartbeats 40000000 in
theorem radjoint_ok (w : World) (A : Option Addr) (n c : Nat) (N : Nat → Nat) (f : Nat → Nat → Cx) (hM : MatQ w A n N f) (hn : n ≤ 1000) (hN : ∀ i, i < n → N i ≤ 1000) (hV : Valid n N) :
    Calls Tryz.prog 26 #[.slice A n c] w (RetMatQE w (colN n N) (fun _ => n) fun i j => (f j i).conj) := by
  obtain ⟨F, hF⟩ : ∃ F : Nat → Nat → Cx, F = fun i j => (f j i).conj := ⟨_, rfl⟩
  rw [← hF]
  have HM := Lib.hid hM
  obtain ⟨R, K, hG, _⟩ := hM
  have hrow := valid_colN hV
  have hm := colN_le hN
  have HC := rvalid_any w A n c R N K hG hn hN true ⟨fun _ => hV, fun _ => rfl⟩
  have HC2 := Lib.hid (fun w2 (hb : Below w.heap.size w w2) => rcolumns_any w2 A n c R N K (hG.to hb) hn)
  generalize colN n N = m at *
  have HR := Lib.hid hrow; have HF := Lib.hid hF; have HG := Lib.hid hG
  clear hN hV hrow hF hG
  have HZ := Lib.hid (fun w2 => zeros_any w2 m n hm hn)
  go_enter Tryz.func26, Tryz.ntmps26
  go_wp2_with fail
  refine HC.mono ?_
  rintro e w1 ⟨rfl, hb1⟩
  go_wp2_with fail
  refine (HC2.out w1 hb1).mono ?_
  rintro e w2 ⟨rfl, hb2⟩
  have HB := Lib.hid (hb1.trans (hb2.mono hb1.size))
  clear hb1 hb2 HC HC2
  go_wp2_with fail
  refine (HZ.out w2).mono ?_
  rintro e w3 ⟨gO, rfl, hB00⟩
  have hB0 : MkQ w2 gO m n m (fun a b => b < 0) F w3 := hB00.cong (fun a b _ _ h => absurd h (Nat.not_lt_zero _))
  clear hB00 HZ
  go_upto_region 5 with fail
  go_loopw [5] (fun i (wr : World) => ∃ k : Nat, k ≤ n ∧ i = .int .i64 k ∧ MkQ w2 gO m n m (fun a b => b < k) F wr) (fun i _ => n - (intOf i).toNat)
  case atStart => exact ⟨0, Nat.zero_le _, rfl, hB0⟩
  case round =>
    obtain ⟨i, hi, rfl, hB⟩ := hrel
    clear hB0
    by_cases hlt : i < n
    · have hNi := HR.out i hlt
      have hB3 : MkQ w2 gO m n m (fun a b => b < i ∨ (b = i ∧ a < 0)) F wr := hB.cong (fun a b _ _ h => ⟨by omega, rfl⟩)
      clear hB
      obtain ⟨b, fo, rfl, hl, hc1⟩ := HG.out i hlt
      rw [hNi] at hc1
      have i1 : (0 : Int) ≤ (i : Int) := by omega
      have i2 : (i : Int) < (n : Int) := by omega
      have HC1 := Lib.hid (And.intro hl hc1)
      generalize R i = Ri at *
      generalize K i = Ki at *
      clear hl hc1 hNi
      go_upto_region 8 with fail
      go_loopw [6] (fun q (wr : World) => ∃ k : Nat, k ≤ m ∧ q = .int .i64 k ∧ MkQ w2 gO m n m (fun a b => b < i ∨ (b = i ∧ a < k)) F wr) (fun q _ => m - (intOf q).toNat)
      case atStart => exact ⟨0, Nat.zero_le _, rfl, hB3⟩
      case round =>
        obtain ⟨k, hk, rfl, hB⟩ := hrel
        clear hB3
        have hbw := HB.out.trans (hB.below.mono HB.out.size)
        have hl : b < wr.heap.size := Nat.lt_of_lt_of_le HC1.out.1 hbw.size
        have hc1 := (hbw.cell (p := ⟨b, _, none⟩) HC1.out.1).trans HC1.out.2
        by_cases hlk : k < m
        · obtain ⟨b', fo', ga, Ka, A1, A2, A3, c1, c2, c3, eA, ha1, ha2, ha3, ha4, ha5⟩ := (HM.out.to hbw).at hlt hlk (HR.out i hlt)
          injection eA with eA; injection eA with eA1 eA2; subst eA1 eA2
          rw [hc1] at ha2
          injection ha2 with ha2; injection ha2 with e1 _ e2; subst e1 e2
          obtain ⟨g, hg1, hg2, hg3, _, hput⟩ := hB.put hlk hlk hlt
          obtain ⟨x, hx⟩ : ∃ x, x = f i k := ⟨_, rfl⟩
          rw [← hx] at ha4 ha5
          have hFx : F k i = x.conj := by rw [HF.out, hx]
          have HFX := Lib.hid hFx
          have i3 : (0 : Int) ≤ (k : Int) := by omega
          have i4 : (k : Int) < (m : Int) := by omega
          have HBW := Lib.hid hbw
          clear hB hx hFx hbw
          go_upto_region 10 with fail
          refine wp_region_any (by kernel_rfl) ?_
          refine wpAny_inv (fun l a' w' => ∃ V : Nat → Value, ∃ x12 : Value, a' = ⟨#[.slice (some ⟨b, fo, none⟩) n c, undef, .slice none 0 0, .int .i64 0, .slice (some ⟨gO, 0, none⟩) m m, .int .i64 ↑i, .int .i64 ↑k, .slice (some ⟨b, fo, none⟩) n c, .bool true, .bool false, .slice (some ⟨b, fo, none⟩) n c, .int .i64 ↑m, .slice (some ⟨b, fo, none⟩) n c, .int .i64 ↑n, .slice (some ⟨gO, 0, none⟩) m m, .int .i64 ↑i, .slice (some ⟨b, fo, none⟩) n c, .int .i64 ↑n, .bool true, u19, u20, .int .i64 ↑k, .slice (some ⟨b, fo, none⟩) n c, .int .i64 ↑i, .pointer (some { block := b, off := fo + i }), .slice (some ⟨ga, 0, none⟩) m Ki, .int .i64 ↑m, .bool true, u28, u29, V 0, V 1, V 2, V 3, V 4, V 5, V 6, V 7, V 8, V 9, V 10, V 11, x12, V 13, undef], []⟩ ∧ OnFix l V (fun zz => List.getD [.slice (some ⟨gO, 0, none⟩) m m, .int .i64 k, .pointer (some ⟨gO, k, none⟩), .slice (some ⟨g, 0, none⟩) n n, .int .i64 i, .slice (some ⟨b, fo, none⟩) n c, .int .i64 i, .pointer (some ⟨b, fo + i, none⟩), .slice (some ⟨ga, 0, none⟩) m Ki, .int .i64 k, .pointer (some ⟨ga, k * 5, none⟩), .agg #[.bool (sn (na x)), .slice A1 (ln (ab (na x))) c1, .bool (sn (nb x)), .slice A2 (ln (ab (nb x))) c2, .slice A3 (ln (nd x)) c3], undef, .pointer (some ⟨g, i * 5, none⟩), undef] zz undef) [0, 1, 2, 3, 4, 5, 6, 7, 8, 9, 10, 11, 13] ∧ Off l 14 (Below wr.heap.size wr w' ∧ On l 12 (SlotNumC w' x12 (x.conj))) ∧ On l 14 (MkQ w2 gO m n m (fun a b => b < i ∨ (b = i ∧ a < k + 1)) F w') ∧ Edg l [(14, 13), (13, 3), (14, 12), (12, 11), (11, 10), (10, 8)] ∧ l.size = 15) ?_ ?_ _ _ _ _ (by decide) ?_
          · intro l a' W' i hi hI
            obtain ⟨V, x12, rfl, hv, hZ, hM0, hE, hz⟩ := hI
            obtain ⟨hlt, hoff, hpre⟩ := ready_pre hi
            have hc : i ∈ [0, 1, 2, 3, 4, 5, 6, 7, 8, 9, 10, 11, 12, 13, 14] := (by decide : ∀ i, i < 15 → i ∈ [0, 1, 2, 3, 4, 5, 6, 7, 8, 9, 10, 11, 12, 13, 14]) i hlt
            simp only [List.mem_cons, List.not_mem_nil, or_false] at hc
            clear hi hlt
            rcases hc with rfl | rfl | rfl | rfl | rfl | rfl | rfl | rfl | rfl | rfl | rfl | rfl | rfl | rfl | rfl <;> (have hp := hpre _ rfl; simp [Region.binds] at hp; clear hpre)
            · skip
              have HV := Lib.hid hv
              clear hv
              refine wpOp_go rfl rfl (fun K hK => ?_)
              go_simp
              refine hK _ _ ?_
              exact ⟨_, _, rfl, HV.out.new (x := .slice (some ⟨gO, 0, none⟩) m m) rfl, hZ.keep.map (fun ⟨hb0, y12⟩ => ⟨hb0, y12.keep (by decide)⟩), hM0.keep (by decide), hE.mono (by decide), by simp [hz]⟩
            · skip
              have HV := Lib.hid hv
              clear hv
              refine wpOp_go rfl rfl (fun K hK => ?_)
              go_simp
              refine hK _ _ ?_
              exact ⟨_, _, rfl, HV.out.new (x := .int .i64 k) rfl, hZ.keep.map (fun ⟨hb0, y12⟩ => ⟨hb0, y12.keep (by decide)⟩), hM0.keep (by decide), hE.mono (by decide), by simp [hz]⟩
            · skip
              have e0 : V 0 = .slice (some ⟨gO, 0, none⟩) m m := hv.get 0 (by decide) (by simp [hp])
              have e1 : V 1 = .int .i64 k := hv.get 1 (by decide) (by simp [hp])
              have HV := Lib.hid ((hv.fixE e0 rfl).fixE e1 rfl)
              clear hv
              simp only [e0, e1]
              refine wpOp_go rfl rfl (fun K hK => ?_)
              go_simp
              refine hK _ _ ?_
              exact ⟨_, _, rfl, HV.out.new (x := .pointer (some ⟨gO, k, none⟩)) rfl, hZ.keep.map (fun ⟨hb0, y12⟩ => ⟨hb0, y12.keep (by decide)⟩), hM0.keep (by decide), hE.mono (by decide), by simp [hz]⟩
            · skip
              have e2 : V 2 = .pointer (some ⟨gO, k, none⟩) := hv.get 2 (by decide) (by simp [hp])
              have HV := Lib.hid (hv.fixE e2 rfl)
              clear hv
              simp only [e2]
              have hY := hZ.get (fun h => off hoff (hE.get 13 3 (by decide) (hE.get 14 13 (by decide) h)))
              have z := keepc hY.1 hg1 hg2
              refine wpOp_go rfl rfl (fun K hK => ?_)
              go_simp
              refine hK _ _ ?_
              exact ⟨_, _, rfl, HV.out.new (x := .slice (some ⟨g, 0, none⟩) n n) rfl, hZ.keep.map (fun ⟨hb0, y12⟩ => ⟨hb0, y12.keep (by decide)⟩), hM0.keep (by decide), hE.mono (by decide), by simp [hz]⟩
            · skip
              have HV := Lib.hid hv
              clear hv
              refine wpOp_go rfl rfl (fun K hK => ?_)
              go_simp
              refine hK _ _ ?_
              exact ⟨_, _, rfl, HV.out.new (x := .int .i64 i) rfl, hZ.keep.map (fun ⟨hb0, y12⟩ => ⟨hb0, y12.keep (by decide)⟩), hM0.keep (by decide), hE.mono (by decide), by simp [hz]⟩
            · skip
              have HV := Lib.hid hv
              clear hv
              refine wpOp_go rfl rfl (fun K hK => ?_)
              go_simp
              refine hK _ _ ?_
              exact ⟨_, _, rfl, HV.out.new (x := .slice (some ⟨b, fo, none⟩) n c) rfl, hZ.keep.map (fun ⟨hb0, y12⟩ => ⟨hb0, y12.keep (by decide)⟩), hM0.keep (by decide), hE.mono (by decide), by simp [hz]⟩
            · skip
              have HV := Lib.hid hv
              clear hv
              refine wpOp_go rfl rfl (fun K hK => ?_)
              go_simp
              refine hK _ _ ?_
              exact ⟨_, _, rfl, HV.out.new (x := .int .i64 i) rfl, hZ.keep.map (fun ⟨hb0, y12⟩ => ⟨hb0, y12.keep (by decide)⟩), hM0.keep (by decide), hE.mono (by decide), by simp [hz]⟩
            · skip
              have e5 : V 5 = .slice (some ⟨b, fo, none⟩) n c := hv.get 5 (by decide) (by simp [hp])
              have e6 : V 6 = .int .i64 i := hv.get 6 (by decide) (by simp [hp])
              have HV := Lib.hid ((hv.fixE e5 rfl).fixE e6 rfl)
              clear hv
              simp only [e5, e6]
              refine wpOp_go rfl rfl (fun K hK => ?_)
              go_simp
              refine hK _ _ ?_
              exact ⟨_, _, rfl, HV.out.new (x := .pointer (some ⟨b, fo + i, none⟩)) rfl, hZ.keep.map (fun ⟨hb0, y12⟩ => ⟨hb0, y12.keep (by decide)⟩), hM0.keep (by decide), hE.mono (by decide), by simp [hz]⟩
            · skip
              have e7 : V 7 = .pointer (some ⟨b, fo + i, none⟩) := hv.get 7 (by decide) (by simp [hp])
              have HV := Lib.hid (hv.fixE e7 rfl)
              clear hv
              simp only [e7]
              have hY := hZ.get (fun h => off hoff (hE.get 10 8 (by decide) (hE.get 11 10 (by decide) (hE.get 12 11 (by decide) (hE.get 14 12 (by decide) h)))))
              have z := keepc hY.1 hc1 hl
              refine wpOp_go rfl rfl (fun K hK => ?_)
              go_simp
              refine hK _ _ ?_
              exact ⟨_, _, rfl, HV.out.new (x := .slice (some ⟨ga, 0, none⟩) m Ki) rfl, hZ.keep.map (fun ⟨hb0, y12⟩ => ⟨hb0, y12.keep (by decide)⟩), hM0.keep (by decide), hE.mono (by decide), by simp [hz]⟩
            · skip
              have HV := Lib.hid hv
              clear hv
              refine wpOp_go rfl rfl (fun K hK => ?_)
              go_simp
              refine hK _ _ ?_
              exact ⟨_, _, rfl, HV.out.new (x := .int .i64 k) rfl, hZ.keep.map (fun ⟨hb0, y12⟩ => ⟨hb0, y12.keep (by decide)⟩), hM0.keep (by decide), hE.mono (by decide), by simp [hz]⟩
            · skip
              have e8 : V 8 = .slice (some ⟨ga, 0, none⟩) m Ki := hv.get 8 (by decide) (by simp [hp])
              have e9 : V 9 = .int .i64 k := hv.get 9 (by decide) (by simp [hp])
              have HV := Lib.hid ((hv.fixE e8 rfl).fixE e9 rfl)
              clear hv
              simp only [e8, e9]
              refine wpOp_go rfl rfl (fun K hK => ?_)
              go_simp
              refine hK _ _ ?_
              exact ⟨_, _, rfl, HV.out.new (x := .pointer (some ⟨ga, k * 5, none⟩)) rfl, hZ.keep.map (fun ⟨hb0, y12⟩ => ⟨hb0, y12.keep (by decide)⟩), hM0.keep (by decide), hE.step (by simp [hp]), by simp [hz]⟩
            · skip
              have e10 : V 10 = .pointer (some ⟨ga, k * 5, none⟩) := hv.get 10 (by decide) (by simp [hp])
              have HV := Lib.hid (hv.fixE e10 rfl)
              clear hv
              simp only [e10]
              have hY := hZ.get (fun h => off hoff (hE.get 12 11 (by decide) (hE.get 14 12 (by decide) h)))
              obtain ⟨z0, z1, z2, z3, z4⟩ := ha4
              have y0 := keepc hY.1 z0 ha3; have y1 := keepc hY.1 z1 ha3; have y2 := keepc hY.1 z2 ha3; have y3 := keepc hY.1 z3 ha3; have y4 := keepc hY.1 z4 ha3
              refine wpOp_go rfl rfl (fun K hK => ?_)
              go_simp
              refine hK _ _ ?_
              exact ⟨_, _, rfl, HV.out.new (x := .agg #[.bool (sn (na x)), .slice A1 (ln (ab (na x))) c1, .bool (sn (nb x)), .slice A2 (ln (ab (nb x))) c2, .slice A3 (ln (nd x)) c3]) rfl, hZ.keep.map (fun ⟨hb0, y12⟩ => ⟨hb0, y12.keep (by decide)⟩), hM0.keep (by decide), hE.step (by simp [hp]), by simp [hz]⟩
            · skip
              have e11 : V 11 = .agg #[.bool (sn (na x)), .slice A1 (ln (ab (na x))) c1, .bool (sn (nb x)), .slice A2 (ln (ab (nb x))) c2, .slice A3 (ln (nd x)) c3] := hv.get 11 (by decide) (by simp [hp])
              have HV := Lib.hid (hv.fixE e11 rfl)
              clear hv
              simp only [e11]
              have hY := hZ.get (fun h => off hoff (hE.get 14 12 (by decide) h))
              refine wpOp_go rfl rfl (fun K hK => ?_)
              go_wp2_with (first | (go_at_call 67; refine (rconj_num x A1 A2 A3 c1 c2 c3 _ (ha5.to hY.1)).mono ?_; rintro e w3 ⟨E1, E2, E3, kk1, kk2, kk3, rfl, hN, hb⟩))
              try refine hK _ _ ?_
              exact ⟨_, _, rfl, HV.out.other (by decide), Off.new ⟨hY.1.trans (hb.mono hY.1.size), On.new (⟨E1, E2, E3, kk1, kk2, kk3, rfl, hN⟩)⟩, fun h => absurd (hE.get 14 12 (by decide) (on_ne h (by decide))) (off hoff), hE.step (by simp [hp]), by simp [hz]⟩
            · skip
              have e3 : V 3 = .slice (some ⟨g, 0, none⟩) n n := hv.get 3 (by decide) (by simp [hp])
              have e4 : V 4 = .int .i64 i := hv.get 4 (by decide) (by simp [hp])
              have HV := Lib.hid ((hv.fixE e3 rfl).fixE e4 rfl)
              clear hv
              simp only [e3, e4]
              refine wpOp_go rfl rfl (fun K hK => ?_)
              go_simp
              refine hK _ _ ?_
              exact ⟨_, _, rfl, HV.out.new (x := .pointer (some ⟨g, i * 5, none⟩)) rfl, hZ.keep.map (fun ⟨hb0, y12⟩ => ⟨hb0, y12.keep (by decide)⟩), hM0.keep (by decide), hE.step (by simp [hp]), by simp [hz]⟩
            · skip
              have e13 : V 13 = .pointer (some ⟨g, i * 5, none⟩) := hv.get 13 (by decide) (by simp [hp])
              have HV := Lib.hid (hv.fixE e13 rfl)
              clear hv
              simp only [e13]
              have hY := hZ.get (off hoff)
              obtain ⟨E1, E2, E3, kk1, kk2, kk3, e1, hN⟩ := hY.2.get (by simp [hp])
              subst e1
              obtain ⟨⟨u0, u1, u2, u3, u4, d0, d1, d2, d3, d4⟩, ⟨f0, f1, f2, f3, f4⟩, hfin⟩ := hput W' hY.1
              refine wpOp_go rfl rfl (fun K hK => ?_)
              go_simp
              refine hK _ _ ?_
              obtain ⟨XX, hX⟩ : ∃ XX : World, XX = set5q W' g (i * 5) x.conj E1 E2 E3 kk1 kk2 kk3 := ⟨_, rfl⟩
              have hw : set5q W' g (i * 5) x.conj E1 E2 E3 kk1 kk2 kk3 = XX := hX.symm
              unfold set5q at hw
              rw [hw]
              subst hX
              exact ⟨_, _, rfl, HV.out.other (by decide), Off.done (by omega), On.new (hfin (fun a b => b < i ∨ (b = i ∧ a < k + 1)) F _ E1 E2 E3 kk1 kk2 kk3 hN HFX.out (fun a b h h2 => ⟨by omega, rfl⟩)), hE.step (by simp [hp]), by simp [hz]⟩
          · intro l a' W' hr hI
            obtain ⟨V, x12, rfl, hv, hZ, hM0, hE, hz⟩ := hI
            have a0 := not_ready (i := 0) hr hz rfl (by simp [Region.binds])
            have a1 := not_ready (i := 1) hr hz rfl (by simp [Region.binds, a0])
            have a2 := not_ready (i := 2) hr hz rfl (by simp [Region.binds, a0, a1])
            have a3 := not_ready (i := 3) hr hz rfl (by simp [Region.binds, a0, a1, a2])
            have a4 := not_ready (i := 4) hr hz rfl (by simp [Region.binds, a0, a1, a2, a3])
            have a5 := not_ready (i := 5) hr hz rfl (by simp [Region.binds, a0, a1, a2, a3, a4])
            have a6 := not_ready (i := 6) hr hz rfl (by simp [Region.binds, a0, a1, a2, a3, a4, a5])
            have a7 := not_ready (i := 7) hr hz rfl (by simp [Region.binds, a0, a1, a2, a3, a4, a5, a6])
            have a8 := not_ready (i := 8) hr hz rfl (by simp [Region.binds, a0, a1, a2, a3, a4, a5, a6, a7])
            have a9 := not_ready (i := 9) hr hz rfl (by simp [Region.binds, a0, a1, a2, a3, a4, a5, a6, a7, a8])
            have a10 := not_ready (i := 10) hr hz rfl (by simp [Region.binds, a0, a1, a2, a3, a4, a5, a6, a7, a8, a9])
            have a11 := not_ready (i := 11) hr hz rfl (by simp [Region.binds, a0, a1, a2, a3, a4, a5, a6, a7, a8, a9, a10])
            have a12 := not_ready (i := 12) hr hz rfl (by simp [Region.binds, a0, a1, a2, a3, a4, a5, a6, a7, a8, a9, a10, a11])
            have a13 := not_ready (i := 13) hr hz rfl (by simp [Region.binds, a0, a1, a2, a3, a4, a5, a6, a7, a8, a9, a10, a11, a12])
            have a14 := not_ready (i := 14) hr hz rfl (by simp [Region.binds, a0, a1, a2, a3, a4, a5, a6, a7, a8, a9, a10, a11, a12, a13])
            have hY := hM0.get a14
            clear hr hz hv hZ a0 a1 a2 a3 a4 a5 a6 a7 a8 a9 a10 a11 a12 a13 a14 hM0 hE
            go_wp2_with fail
            go_roundw
            case rel => exact ⟨k + 1, by omega, by go_num, hY⟩
            case measure => simp [intOf]; omega
          · exact ⟨fun zz => List.getD [u30, u31, u32, u33, u34, u35, u36, u37, u38, u39, u40, u41, u42, u43, undef] zz undef, _, rfl, OnFix.start, Off.new ⟨((Below.refl _ _).drew), fun h => absurd h (by decide)⟩, fun h => absurd h (by decide), Edg.start, by simp⟩
        · obtain rfl : k = m := by omega
          clear hbw
          go_wp2_with fail
          go_roundw
          case rel => exact ⟨i + 1, by omega, by go_num, hB.cong (fun a b ha hb h => ⟨by omega, rfl⟩)⟩
          case measure => simp [intOf]; omega
    · obtain rfl : i = n := by omega
      go_wp2_with fail
      obtain ⟨h1, h2⟩ := (hB.cong (D' := fun _ _ => True) (f' := F) (fun a b ha hb h => ⟨hb, rfl⟩)).fin (fun _ _ => trivial)
      exact bodyPost_ret (v := .tuple #[.slice (some ⟨gO, 0, none⟩) m m, .int .i64 0]) (by simp [results, Tryz.results26, go_sem]) rfl ⟨_, _, rfl, h1, HB.out.trans (h2.mono HB.out.size)⟩
end Go.Proofs.YtdpjknjlhchmcaaGreat

namespace Go.Proofs.YtdpjknjlhchmcaaGreat
open Go.RowKit Pl
set_option linter.unusedVariables false
set_option linter.unusedSimpArgs false
/-- What a call that makes a matrix hands back. -/
def RetMat (w : World) (n : Nat) (N : Nat → Nat) (f : Nat → Nat → Cx) (e : Ending) (w' : World) : Prop := ∃ A c, e = .returned (.slice A n c) ∧ MatP w' A n N f ∧ Below w.heap.size w w'
theorem step_len (N : Nat → Nat) (k j : Nat) : more (fun i => if i < k then N i else if i = k then j else 0) k = fun i => if i < k then N i else if i = k then j + 1 else 0 := by
  funext i; unfold more; by_cases e : i = k
  · subst e; simp
  · simp [e]
theorem next_len (N : Nat → Nat) (k : Nat) : (fun i => if i < k + 1 then N i else 0) = fun i => if i < k then N i else if i = k then N k else 0 := by
  funext i; by_cases h1 : i < k
  · simp [h1, Nat.lt_succ_of_lt h1]
  · by_cases h2 : i = k
    · subst h2; simp
    · have : ¬ i < k + 1 := by omega
      simp [h1, h2, this]
theorem BldP.done {w0 w : World} {gO n : Nat} {N : Nat → Nat} {f : Nat → Nat → Cx} (h : BldP w0 gO n (fun i => if i < n then N i else 0) f w) : MatP w (some ⟨gO, 0, none⟩) n N f ∧ Below w0.heap.size w0 w := by
  obtain ⟨⟨R, K, g1, g2⟩, h2⟩ := h.fin
  exact ⟨⟨R, K, fun i hi => by have := g1 i hi; simpa [hi] using this, fun i hi j hj => g2 i hi j (by simpa [hi] using hj)⟩, h2⟩
set_option maxRecDepth 100000 in
set_option maxHeartbeats 40000000 in
theorem lift_any (w : World) (A : Option Addr) (n c : Nat) (N : Nat → Nat) (f : Nat → Nat → Cx) (hM : MatP w A n N f) (hn : n ≤ 1000) (hN : ∀ i, i < n → N i ≤ 1000) :
    Calls Tryz.prog 27 #[.slice A n c] w (RetMat w n N f) := by
  have HM := Lib.hid hM
  have HN := Lib.hid hN
  clear hM hN
  have hmk := mk_nums2 n (by omega)
  have hm_Of : ∀ (k : Nat) (v1 v2 v3 v4 v5 : Value) (w : World), (method (k + 1) 45 (.agg #[v1, v2, v3, v4, v5]) "Of").run Tryz.prog w = .ok (175, .agg #[v1, v2, v3, v4, v5]) w := fun _ _ _ _ _ _ _ => by kernel_rfl
  go_enter Tryz.func27, Tryz.ntmps27
  go_wp2_with fail
  clear hmk
  obtain ⟨g3, hg3⟩ : ∃ g, g = w.heap.size := ⟨_, rfl⟩
  obtain ⟨w1, hw1⟩ : ∃ w1 : World, w1 = w.alloc (.cells #[.bool false, .slice none 0 0, .bool false, .slice none 0 0, .slice none 0 0] 45) := ⟨_, rfl⟩
  have hb1 : Below w.heap.size w w1 := by rw [hw1]; exact (Below.refl _ _).alloc (Nat.le_refl _) _
  have ht : C5 w1 g3 (.bool false) (.slice none 0 0) (.bool false) (.slice none 0 0) (.slice none 0 0) := by subst hw1 hg3; exact ⟨by go_simp, by go_simp, by go_simp, by go_simp, by go_simp⟩
  have hl3 : g3 < w1.heap.size := by subst hw1 hg3; simp
  have hB0 : BldP w1 w1.heap.size n (fun _ => 0) f (mkS w1 n 28) := BldP.new
  have es : g3 + 1 = w1.heap.size := by rw [hw1, hg3]; simp
  rw [← hg3, ← hw1, es]
  have HB1 := Lib.hid hb1
  have HT := Lib.hid (And.intro ht hl3)
  clear hb1 hw1 hg3 ht hl3 es
  obtain ⟨R', K', g1, g2⟩ := HM.out.to HB1.out
  have HG1 := Lib.hid g1; have HG2 := Lib.hid g2
  clear g1 g2
  generalize mkS w1 n 28 = W0 at *
  obtain ⟨gO, hgO⟩ : ∃ g, g = w1.heap.size := ⟨_, rfl⟩
  rw [← hgO] at hB0 ⊢
  clear hgO
  go_loopw [14] (fun i (wr : World) => ∃ k : Nat, k ≤ n ∧ i = .int .i64 k ∧ BldP w1 gO n (fun i => if i < k then N i else 0) f wr) (fun i _ => n - (intOf i).toNat)
  case atStart => exact ⟨0, Nat.zero_le _, rfl, by simpa using hB0⟩
  case round =>
    obtain ⟨k, hk, rfl, hB⟩ := hrel
    clear hB0
    by_cases hlt : k < n
    · have hB2 : BldP w1 gO n (fun i => if i < k then N i else if i = k then 0 else 0) f wr := by simpa using hB
      clear hB
      have hNk := HN.out k hlt
      obtain ⟨b, fo, rfl, hl, hc1⟩ := HG1.out k hlt
      replace hc1 := (hB2.fin.2.cell (p := ⟨b, _, none⟩) hl).trans hc1
      have hGk := HG2.out k hlt
      generalize hNk' : N k = nk at *
      generalize R' k = Rk at *
      generalize K' k = Kk at *
      have HGk := Lib.hid hGk
      clear hGk
      have hl2 : b < wr.heap.size := Nat.lt_of_lt_of_le hl hB2.fin.2.size
      go_upto_region 7 with fail
      clear hc1
      go_loopw [21] (fun i (wr : World) => ∃ j : Nat, j ≤ nk ∧ i = .int .i64 j ∧ BldP w1 gO n (fun i => if i < k then N i else if i = k then j else 0) f wr) (fun i _ => nk - (intOf i).toNat)
      case atStart => exact ⟨0, Nat.zero_le _, rfl, hB2⟩
      case round =>
        obtain ⟨j, hj, rfl, hB3⟩ := hrel
        clear hB2 hl2
        by_cases hlj : j < nk
        · obtain ⟨g, rfl, hpe⟩ := HGk.out j hlj
          replace hpe := hpe.to hB3.fin.2
          obtain ⟨A1, A2, A3, ⟨c0, c1, c2, c3, c4⟩, hq⟩ := hpe
          have hlg : g < wr.heap.size := World.block_lt_of_cell? wr ⟨g, _, none⟩ c0
          obtain ⟨q, hqq⟩ : ∃ q, q = f k j := ⟨_, rfl⟩
          rw [← hqq] at c0 c1 c2 c3 c4 hq
          have i3 : (0 : Int) ≤ (j : Int) := by omega
          have i4 : (j : Int) < (nk : Int) := by omega
          have Hqq := Lib.hid hqq
          clear hqq
          go_upto_region 9 with fail
          obtain ⟨g8, hg8⟩ : ∃ g, g = wr.heap.size := ⟨_, rfl⟩
          obtain ⟨W2, hW2⟩ : ∃ W2 : World, W2 = wr.alloc (.cells #[.bool (sn (na q)), .slice A1 (ln (ab (na q))) (ln (ab (na q))), .bool (sn (nb q)), .slice A2 (ln (ab (nb q))) (ln (ab (nb q))), .slice A3 (ln (un q)) (ln (un q))] 45) := ⟨_, rfl⟩
          have hb2 : Below wr.heap.size wr W2 := by rw [hW2]; exact (Below.refl _ _).alloc (Nat.le_refl _) _
          have hx : C5 W2 g8 (.bool (sn (na q))) (.slice A1 (ln (ab (na q))) (ln (ab (na q)))) (.bool (sn (nb q))) (.slice A2 (ln (ab (nb q))) (ln (ab (nb q)))) (.slice A3 (ln (un q)) (ln (un q))) := by subst hW2 hg8; exact ⟨by go_simp, by go_simp, by go_simp, by go_simp, by go_simp⟩
          have hl8 : g8 < W2.heap.size := by subst hW2 hg8; simp
          rw [← hg8, ← hW2]
          replace hq := hq.to hb2
          have hB4 := hB3.to hb2
          obtain ⟨ht, hl3⟩ := HT.out
          replace ht := ht.to hB4.fin.2 hl3
          replace hl3 := Nat.lt_of_lt_of_le hl3 hB4.fin.2.size
          obtain ⟨v1, hv1, hv2, hpush⟩ := hB4.push hlt (by simp; omega)
          have hLk : f k ((fun i => if i < k then N i else if i = k then j else 0) k) = q := by simp [Hqq.out]
          have i1 : (0 : Int) ≤ (k : Int) := by omega
          have i2 : (k : Int) < (n : Int) := by omega
          clear hB3 hB4 hb2 hW2 hg8 c0 c1 c2 c3 c4 hlg i3 i4
          refine wp_region_any (by kernel_rfl) ?_
          refine wpAny_inv (fun l a' w' => ∃ V : Nat → Value, ∃ x9 x10 x11 : Value, a' = ⟨#[.slice (some ⟨b, fo, none⟩) n c, undef, .slice none 0 0, .pointer (some ⟨g3, 0, none⟩), .slice (some ⟨gO, 0, none⟩) n n, .int .i64 ↑k, .slice (some ⟨g, 0, none⟩) nk Kk, undef, .pointer (some ⟨g8, 0, none⟩), .slice (some ⟨b, fo, none⟩) n c, .int .i64 ↑n, .slice (some ⟨gO, 0, none⟩) n n, .slice (some ⟨b, fo, none⟩) n c, .int .i64 ↑n, .int .i64 ↑k, .bool true, .int .i64 ↑k, .pointer (some { block := b, off := fo + k }), .slice (some ⟨g, 0, none⟩) nk Kk, .slice (some ⟨g, 0, none⟩) nk Kk, .int .i64 ↑nk, .int .i64 ↑j, .bool true, .pointer (some { block := g, off := j * 5 }), .agg #[.bool (sn (na q)), .slice A1 (ln (ab (na q))) (ln (ab (na q))), .bool (sn (nb q)), .slice A2 (ln (ab (nb q))) (ln (ab (nb q))), .slice A3 (ln (un q)) (ln (un q))], V 0, V 1, V 2, V 3, V 4, V 5, V 6, V 7, V 8, x9, x10, x11, V 12, u38, u39, undef], []⟩ ∧ OnFix l V (fun zz => List.getD [.slice (some ⟨gO, 0, none⟩) n n, .int .i64 k, .slice (some ⟨gO, 0, none⟩) n n, .int .i64 k, .pointer (some ⟨gO, k, none⟩), v1, .agg #[.bool false, .slice none 0 0, .bool false, .slice none 0 0, .slice none 0 0], .iface 45 (.agg #[.bool false, .slice none 0 0, .bool false, .slice none 0 0, .slice none 0 0]), .agg #[.bool (sn (na q)), .slice A1 (ln (ab (na q))) (ln (ab (na q))), .bool (sn (nb q)), .slice A2 (ln (ab (nb q))) (ln (ab (nb q))), .slice A3 (ln (un q)) (ln (un q))], undef, undef, undef, .pointer (some ⟨gO, k, none⟩), undef] zz undef) [0, 1, 2, 3, 4, 5, 6, 7, 8, 12] ∧ Off l 11 (Below W2.heap.size W2 w' ∧ On l 9 (SlotNum w' x9 q) ∧ On l 10 (BoxN W2.heap.size w' x10 q)) ∧ On l 11 (Off l 13 (MidP w1 gO n k (fun i => if i < k then N i else if i = k then j else 0) f x11 w')) ∧ On l 13 (BldP w1 gO n (more (fun i => if i < k then N i else if i = k then j else 0) k) f w') ∧ Edg l [(11, 5), (11, 10), (10, 9), (9, 7), (7, 6), (9, 8), (13, 11)] ∧ l.size = 14) ?_ ?_ _ _ _ _ (by decide) ?_
          · intro l a' W' i hi hI
            obtain ⟨V, x9, x10, x11, rfl, hv, hZ, hM0, hM1, hE, hz⟩ := hI
            obtain ⟨hlt, hoff, hpre⟩ := ready_pre hi
            have hc : i ∈ [0, 1, 2, 3, 4, 5, 6, 7, 8, 9, 10, 11, 12, 13] := (by decide : ∀ i, i < 14 → i ∈ [0, 1, 2, 3, 4, 5, 6, 7, 8, 9, 10, 11, 12, 13]) i hlt
            simp only [List.mem_cons, List.not_mem_nil, or_false] at hc
            clear hi hlt
            rcases hc with rfl | rfl | rfl | rfl | rfl | rfl | rfl | rfl | rfl | rfl | rfl | rfl | rfl | rfl <;> (have hp := hpre _ rfl; simp [Region.binds] at hp; clear hpre)
            · skip
              have HV := Lib.hid hv
              clear hv
              refine wpOp_go rfl rfl (fun K hK => ?_)
              go_simp
              refine hK _ _ ?_
              exact ⟨_, _, _, _, rfl, HV.out.new (x := .slice (some ⟨gO, 0, none⟩) n n) rfl, hZ.keep.map (fun ⟨hb0, y9, y10⟩ => ⟨hb0, y9.keep (by decide), y10.keep (by decide)⟩), (hM0.keep (by decide)).map Off.keep, hM1.keep (by decide), hE.mono (by decide), by simp [hz]⟩
            · skip
              have HV := Lib.hid hv
              clear hv
              refine wpOp_go rfl rfl (fun K hK => ?_)
              go_simp
              refine hK _ _ ?_
              exact ⟨_, _, _, _, rfl, HV.out.new (x := .int .i64 k) rfl, hZ.keep.map (fun ⟨hb0, y9, y10⟩ => ⟨hb0, y9.keep (by decide), y10.keep (by decide)⟩), (hM0.keep (by decide)).map Off.keep, hM1.keep (by decide), hE.mono (by decide), by simp [hz]⟩
            · skip
              have HV := Lib.hid hv
              clear hv
              refine wpOp_go rfl rfl (fun K hK => ?_)
              go_simp
              refine hK _ _ ?_
              exact ⟨_, _, _, _, rfl, HV.out.new (x := .slice (some ⟨gO, 0, none⟩) n n) rfl, hZ.keep.map (fun ⟨hb0, y9, y10⟩ => ⟨hb0, y9.keep (by decide), y10.keep (by decide)⟩), (hM0.keep (by decide)).map Off.keep, hM1.keep (by decide), hE.mono (by decide), by simp [hz]⟩
            · skip
              have HV := Lib.hid hv
              clear hv
              refine wpOp_go rfl rfl (fun K hK => ?_)
              go_simp
              refine hK _ _ ?_
              exact ⟨_, _, _, _, rfl, HV.out.new (x := .int .i64 k) rfl, hZ.keep.map (fun ⟨hb0, y9, y10⟩ => ⟨hb0, y9.keep (by decide), y10.keep (by decide)⟩), (hM0.keep (by decide)).map Off.keep, hM1.keep (by decide), hE.mono (by decide), by simp [hz]⟩
            · skip
              have e2 : V 2 = .slice (some ⟨gO, 0, none⟩) n n := hv.get 2 (by decide) (by simp [hp])
              have e3 : V 3 = .int .i64 k := hv.get 3 (by decide) (by simp [hp])
              have HV := Lib.hid ((hv.fixE e2 rfl).fixE e3 rfl)
              clear hv
              simp only [e2, e3]
              refine wpOp_go rfl rfl (fun K hK => ?_)
              go_simp
              refine hK _ _ ?_
              exact ⟨_, _, _, _, rfl, HV.out.new (x := .pointer (some ⟨gO, k, none⟩)) rfl, hZ.keep.map (fun ⟨hb0, y9, y10⟩ => ⟨hb0, y9.keep (by decide), y10.keep (by decide)⟩), (hM0.keep (by decide)).map Off.keep, hM1.keep (by decide), hE.mono (by decide), by simp [hz]⟩
            · skip
              have e4 : V 4 = .pointer (some ⟨gO, k, none⟩) := hv.get 4 (by decide) (by simp [hp])
              have HV := Lib.hid (hv.fixE e4 rfl)
              clear hv
              simp only [e4]
              have hY := hZ.get (fun h => off hoff (hE.get 11 5 (by decide) h))
              have z := keepc hY.1 hv1 hv2
              refine wpOp_go rfl rfl (fun K hK => ?_)
              go_simp
              refine hK _ _ ?_
              exact ⟨_, _, _, _, rfl, HV.out.new (x := v1) rfl, hZ.keep.map (fun ⟨hb0, y9, y10⟩ => ⟨hb0, y9.keep (by decide), y10.keep (by decide)⟩), (hM0.keep (by decide)).map Off.keep, hM1.keep (by decide), hE.mono (by decide), by simp [hz]⟩
            · skip
              have HV := Lib.hid hv
              clear hv
              have hY := hZ.get (fun h => off hoff (hE.get 7 6 (by decide) (hE.get 9 7 (by decide) (hE.get 10 9 (by decide) (hE.get 11 10 (by decide) h)))))
              obtain ⟨z0, z1, z2, z3, z4⟩ := ht
              have y0 := keepc hY.1 z0 hl3; have y1 := keepc hY.1 z1 hl3; have y2 := keepc hY.1 z2 hl3; have y3 := keepc hY.1 z3 hl3; have y4 := keepc hY.1 z4 hl3
              refine wpOp_go rfl rfl (fun K hK => ?_)
              go_simp
              refine hK _ _ ?_
              exact ⟨_, _, _, _, rfl, HV.out.new (x := .agg #[.bool false, .slice none 0 0, .bool false, .slice none 0 0, .slice none 0 0]) rfl, hZ.keep.map (fun ⟨hb0, y9, y10⟩ => ⟨hb0, y9.keep (by decide), y10.keep (by decide)⟩), (hM0.keep (by decide)).map Off.keep, hM1.keep (by decide), hE.mono (by decide), by simp [hz]⟩
            · skip
              have e6 : V 6 = .agg #[.bool false, .slice none 0 0, .bool false, .slice none 0 0, .slice none 0 0] := hv.get 6 (by decide) (by simp [hp])
              have HV := Lib.hid (hv.fixE e6 rfl)
              clear hv
              simp only [e6]
              refine wpOp_go rfl rfl (fun K hK => ?_)
              go_simp
              refine hK _ _ ?_
              exact ⟨_, _, _, _, rfl, HV.out.new (x := .iface 45 (.agg #[.bool false, .slice none 0 0, .bool false, .slice none 0 0, .slice none 0 0])) rfl, hZ.keep.map (fun ⟨hb0, y9, y10⟩ => ⟨hb0, y9.keep (by decide), y10.keep (by decide)⟩), (hM0.keep (by decide)).map Off.keep, hM1.keep (by decide), hE.step (by simp [hp]), by simp [hz]⟩
            · skip
              have HV := Lib.hid hv
              clear hv
              have hY := hZ.get (fun h => off hoff (hE.get 9 8 (by decide) (hE.get 10 9 (by decide) (hE.get 11 10 (by decide) h))))
              obtain ⟨z0, z1, z2, z3, z4⟩ := hx
              have y0 := keepc hY.1 z0 hl8; have y1 := keepc hY.1 z1 hl8; have y2 := keepc hY.1 z2 hl8; have y3 := keepc hY.1 z3 hl8; have y4 := keepc hY.1 z4 hl8
              refine wpOp_go rfl rfl (fun K hK => ?_)
              go_simp
              refine hK _ _ ?_
              exact ⟨_, _, _, _, rfl, HV.out.new (x := .agg #[.bool (sn (na q)), .slice A1 (ln (ab (na q))) (ln (ab (na q))), .bool (sn (nb q)), .slice A2 (ln (ab (nb q))) (ln (ab (nb q))), .slice A3 (ln (un q)) (ln (un q))]) rfl, hZ.keep.map (fun ⟨hb0, y9, y10⟩ => ⟨hb0, y9.keep (by decide), y10.keep (by decide)⟩), (hM0.keep (by decide)).map Off.keep, hM1.keep (by decide), hE.mono (by decide), by simp [hz]⟩
            · skip
              have e7 : V 7 = .iface 45 (.agg #[.bool false, .slice none 0 0, .bool false, .slice none 0 0, .slice none 0 0]) := hv.get 7 (by decide) (by simp [hp])
              have e8 : V 8 = .agg #[.bool (sn (na q)), .slice A1 (ln (ab (na q))) (ln (ab (na q))), .bool (sn (nb q)), .slice A2 (ln (ab (nb q))) (ln (ab (nb q))), .slice A3 (ln (un q)) (ln (un q))] := hv.get 8 (by decide) (by simp [hp])
              have HV := Lib.hid ((hv.fixE e7 rfl).fixE e8 rfl)
              clear hv
              simp only [e7, e8]
              have hY := hZ.get (fun h => off hoff (hE.get 10 9 (by decide) (hE.get 11 10 (by decide) h)))
              refine wpOp_go rfl rfl (fun K hK => ?_)
              go_wp2_with (first | (go_at_call 175; refine (of_five _ _ _ _ _ q A1 A2 A3 _ (hq.to hY.1) rfl rfl rfl rfl rfl).mono ?_; rintro e w2 ⟨E1, E2, E3, rfl, hN, hb⟩))
              try refine hK _ _ ?_
              exact ⟨_, _, _, _, rfl, HV.out.other (by decide), Off.new ⟨hY.1.trans (hb.mono hY.1.size), On.new (⟨E1, E2, E3, rfl, hN⟩), ((hY.2.2).keep (by decide)).map (fun h => h.to hb)⟩, fun h => absurd (hE.get 10 9 (by decide) (hE.get 11 10 (by decide) (on_ne h (by decide)))) (off hoff), fun h => absurd (hE.get 10 9 (by decide) (hE.get 11 10 (by decide) (hE.get 13 11 (by decide) (on_ne h (by decide))))) (off hoff), hE.step (by simp [hp]), by simp [hz]⟩
            · skip
              have HV := Lib.hid hv
              clear hv
              have hY := hZ.get (fun h => off hoff (hE.get 11 10 (by decide) h))
              obtain ⟨E1, E2, E3, e0, hN⟩ := hY.2.1.get (by simp [hp])
              subst e0
              refine wpOp_go rfl rfl (fun K hK => ?_)
              go_simp
              refine hK _ _ ?_
              exact ⟨_, _, _, _, rfl, HV.out.other (by decide), Off.new ⟨hY.1.trans ((((Below.refl _ _).alloc (Nat.le_refl _) _)).mono hY.1.size), ((hY.2.1).keep (by decide)).map (fun h => h.to ((Below.refl _ _).alloc (Nat.le_refl _) _)), On.new (BoxN.new hN hY.1.size)⟩, fun h => absurd (hE.get 11 10 (by decide) (on_ne h (by decide))) (off hoff), fun h => absurd (hE.get 11 10 (by decide) (hE.get 13 11 (by decide) (on_ne h (by decide)))) (off hoff), hE.step (by simp [hp]), by simp [hz]⟩
            · skip
              have e5 : V 5 = v1 := hv.get 5 (by decide) (by simp [hp])
              have HV := Lib.hid (hv.fixE e5 rfl)
              clear hv
              simp only [e5]
              have hY := hZ.get (off hoff)
              obtain ⟨bb, e0, hpe, hbb⟩ := hY.2.2.get (by simp [hp])
              subst e0
              obtain ⟨v', w3, er, m1, m2, m3, m4⟩ := hpush W' bb hY.1 hbb (by rw [hLk]; exact hpe)
              refine wpOp_go rfl rfl (fun K hK => ?_)
              refine wp_append_run rfl rfl rfl er ?_
              go_simp
              refine hK _ _ ?_
              exact ⟨_, _, _, _, rfl, HV.out.other (by decide), Off.done (by omega), On.new (Off.new (⟨m1, m2, m3, m4⟩)), fun h => absurd (hE.get 13 11 (by decide) (on_ne h (by decide))) (off hoff), hE.step (by simp [hp]), by simp [hz]⟩
            · skip
              have e0 : V 0 = .slice (some ⟨gO, 0, none⟩) n n := hv.get 0 (by decide) (by simp [hp])
              have e1 : V 1 = .int .i64 k := hv.get 1 (by decide) (by simp [hp])
              have HV := Lib.hid ((hv.fixE e0 rfl).fixE e1 rfl)
              clear hv
              simp only [e0, e1]
              refine wpOp_go rfl rfl (fun K hK => ?_)
              go_simp
              refine hK _ _ ?_
              exact ⟨_, _, _, _, rfl, HV.out.new (x := .pointer (some ⟨gO, k, none⟩)) rfl, hZ.keep.map (fun ⟨hb0, y9, y10⟩ => ⟨hb0, y9.keep (by decide), y10.keep (by decide)⟩), (hM0.keep (by decide)).map Off.keep, hM1.keep (by decide), hE.mono (by decide), by simp [hz]⟩
            · skip
              have e12 : V 12 = .pointer (some ⟨gO, k, none⟩) := hv.get 12 (by decide) (by simp [hp])
              have HV := Lib.hid (hv.fixE e12 rfl)
              clear hv
              simp only [e12]
              have hY := (hM0.get (by simp [hp])).get (off hoff)
              obtain ⟨⟨v0, m1⟩, m2, ⟨S, sa, sb, m3⟩, m4⟩ := hY
              subst m3
              refine wpOp_go rfl rfl (fun K hK => ?_)
              go_simp
              refine hK _ _ ?_
              exact ⟨_, _, _, _, rfl, HV.out.other (by decide), fun h => absurd (on_mono (by simp [hp])) h, (hM0.keep (by decide)).map (fun _ => Off.done (by omega)), On.new (m4), hE.step (by simp [hp]), by simp [hz]⟩
          · intro l a' W' hr hI
            obtain ⟨V, x9, x10, x11, rfl, hv, hZ, hM0, hM1, hE, hz⟩ := hI
            have a0 := not_ready (i := 0) hr hz rfl (by simp [Region.binds])
            have a1 := not_ready (i := 1) hr hz rfl (by simp [Region.binds, a0])
            have a2 := not_ready (i := 2) hr hz rfl (by simp [Region.binds, a0, a1])
            have a3 := not_ready (i := 3) hr hz rfl (by simp [Region.binds, a0, a1, a2])
            have a4 := not_ready (i := 4) hr hz rfl (by simp [Region.binds, a0, a1, a2, a3])
            have a5 := not_ready (i := 5) hr hz rfl (by simp [Region.binds, a0, a1, a2, a3, a4])
            have a6 := not_ready (i := 6) hr hz rfl (by simp [Region.binds, a0, a1, a2, a3, a4, a5])
            have a7 := not_ready (i := 7) hr hz rfl (by simp [Region.binds, a0, a1, a2, a3, a4, a5, a6])
            have a8 := not_ready (i := 8) hr hz rfl (by simp [Region.binds, a0, a1, a2, a3, a4, a5, a6, a7])
            have a9 := not_ready (i := 9) hr hz rfl (by simp [Region.binds, a0, a1, a2, a3, a4, a5, a6, a7, a8])
            have a10 := not_ready (i := 10) hr hz rfl (by simp [Region.binds, a0, a1, a2, a3, a4, a5, a6, a7, a8, a9])
            have a11 := not_ready (i := 11) hr hz rfl (by simp [Region.binds, a0, a1, a2, a3, a4, a5, a6, a7, a8, a9, a10])
            have a12 := not_ready (i := 12) hr hz rfl (by simp [Region.binds, a0, a1, a2, a3, a4, a5, a6, a7, a8, a9, a10, a11])
            have a13 := not_ready (i := 13) hr hz rfl (by simp [Region.binds, a0, a1, a2, a3, a4, a5, a6, a7, a8, a9, a10, a11, a12])
            have hY := hM1.get a13
            clear hr hz hv hZ a0 a1 a2 a3 a4 a5 a6 a7 a8 a9 a10 a11 a12 a13 hM0 hM1 hE
            go_wp2_with fail
            go_roundw
            case rel => exact ⟨j + 1, by omega, by go_num, by rw [← step_len]; exact hY⟩
            case measure => simp [intOf]; omega
          · exact ⟨fun zz => List.getD [u25, u26, u27, u28, u29, u30, u31, u32, u33, u34, u35, u36, u37, undef] zz undef, _, _, _, rfl, OnFix.start, Off.new ⟨((Below.refl _ _).drew), fun h => absurd h (by decide), fun h => absurd h (by decide)⟩, fun h => absurd h (by decide), fun h => absurd h (by decide), Edg.start, by simp⟩
        · obtain rfl : j = nk := by omega
          go_wp2_with fail
          go_roundw
          case rel => exact ⟨k + 1, by omega, by go_num, by rw [next_len, hNk']; exact hB3⟩
          case measure => simp [intOf]; omega
    · obtain rfl : k = n := by omega
      go_wp2_with fail
      go_ret
      obtain ⟨h1, h2⟩ := hB.done
      exact ⟨_, _, rfl, h1, HB1.out.trans (h2.mono HB1.out.size)⟩
end Go.Proofs.YtdpjknjlhchmcaaGreat
