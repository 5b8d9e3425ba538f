/- Numbers in memory: a slice of words that reads as a number, kept over new memory; the facts on the program's tables that make and stores want. Conditions: those at each theorem. -/
import Derived.Test.YtgpmlhpgdalheaaGreatProg
import Derived.Test.YtgpmlhpgdalheaaGreatNatB
import Derived.WalkKit
import Derived.Deep.OwnRows
import Derived.Deep.Draws
import Derived.Deep.QuietTactic
import Derived.BigQuiet
import Derived.RegionTactic
import Derived.Deep.RegionWith
import Derived.Deep.RegionHeld3
import Derived.Lib.Hide
import Derived.KernelRfl
namespace Go.Proofs.YtgpmlhpgdalheaaGreat
open Go.RowKit Pl

/-- The slice at the address A with the length 'ln n' holds the words of n. -/
def Nat32 (w : World) (A : Option Addr) (n : Nat) : Prop :=
  n ≠ 0 → ∃ b, A = some ⟨b, 0, none⟩ ∧ b < w.heap.size ∧ ∀ j, j < ln n → w.cell? ⟨b, j, none⟩ = some (.int .u32 (wd n j : Nat))

theorem Nat32.zero (w : World) (A : Option Addr) : Nat32 w A 0 := fun h => absurd rfl h

theorem Nat32.below {w w' : World} {A : Option Addr} {n : Nat} (h : Nat32 w A n) {B : Nat} (hB : w.heap.size ≤ B) (hb : Below B w w') : Nat32 w' A n := fun hn => by
  obtain ⟨b, e, hl, hc⟩ := h hn
  exact ⟨b, e, Nat.lt_of_lt_of_le hl hb.size, fun j hj => (hb.cell (p := ⟨b, j, none⟩) (Nat.lt_of_lt_of_le hl hB)).trans (hc j hj)⟩
theorem Nat32.to {w w' : World} {A : Option Addr} {n : Nat} (h : Nat32 w A n) (hb : Below w.heap.size w w') : Nat32 w' A n := h.below (Nat.le_refl _) hb
theorem Nat32.drew {w : World} {A : Option Addr} {n : Nat} (h : Nat32 w A n) : Nat32 w.drew A n := h
theorem Nat32.drewN {w : World} {A : Option Addr} {n : Nat} (h : Nat32 w A n) (k : Nat) : Nat32 (w.drewN k) A n := h
theorem Nat32.alloc {w : World} {A : Option Addr} {n : Nat} (h : Nat32 w A n) (o : Obj) : Nat32 (w.alloc o) A n := h.to ((Below.refl _ _).alloc (Nat.le_refl _) _)

/-- A row whose first words are those of n is the number n. -/
theorem Nat32.ofRow {w : World} {g : Nat} {t : TypeId} {m n : Nat} {f : Nat → Value} (h : w.rowIs g t m f) (hm : ln n ≤ m) (hf : ∀ j, j < ln n → f j = .int .u32 (wd n j : Nat)) : Nat32 w (some ⟨g, 0, none⟩) n :=
  fun _ => ⟨g, rfl, h.lt, fun j hj => by rw [h.cell (by omega), hf j hj]⟩

/-- A call hands back a number in words, and turns nothing that was there. -/
def RetNat (w : World) (n : Nat) (e : Ending) (w' : World) : Prop := ∃ A, e = .returned (.slice A (ln n) (ln n)) ∧ Nat32 w' A n ∧ Below w.heap.size w w'

theorem below_drewN {B : Nat} {a w : World} (h : Below B a w) (n : Nat) : Below B a (w.drewN n) := ⟨h.os, h.tape, h.output, h.size, h.block⟩

/-- Two steps of which the second keeps what is older than it. -/
theorem below_trans {a b c : World} (h : Below a.heap.size a b) (k : Below b.heap.size b c) : Below a.heap.size a c := h.trans (k.mono h.size)

theorem Tryz.info_u32 : (Tryz.prog.info? 45).map (fun i => (i.zero, i.size, i.bytes)) = some (some (.int .u32 0), 1, 4) := by kernel_rfl
theorem Tryz.und_nat : Tryz.prog.underlying 26 = some (.slice 45) := by kernel_rfl
theorem Tryz.und_words : Tryz.prog.underlying 25 = some (.slice 45) := by kernel_rfl

/-- 'make(nat, n)': a row of n zeros, in whatever world. -/
theorem mk_nat (n : Nat) (hn : n ≤ 70368744177664) (w : World) : (Instr.makeSlice 26 (.int .i64 (n : Int)) (.int .i64 (n : Int))).run Tryz.prog w = .ok (.slice (some ⟨w.heap.size, 0, none⟩) n n) (w.alloc (.cells (madeCells #[.int .u32 0] n) 45)) := by
  obtain ⟨i, hi, hz, hs, hb⟩ := info_parts Tryz.info_u32
  exact run_make_row _ _ i _ Tryz.und_nat hi hz hs rfl .i64 .i64 n (by rw [hb]; omega) (by omega) w
theorem mk_words (n : Nat) (hn : n ≤ 70368744177664) (w : World) : (Instr.makeSlice 25 (.int .i64 (n : Int)) (.int .i64 (n : Int))).run Tryz.prog w = .ok (.slice (some ⟨w.heap.size, 0, none⟩) n n) (w.alloc (.cells (madeCells #[.int .u32 0] n) 45)) := by
  obtain ⟨i, hi, hz, hs, hb⟩ := info_parts Tryz.info_u32
  exact run_make_row _ _ i _ Tryz.und_words hi hz hs rfl .i64 .i64 n (by rw [hb]; omega) (by omega) w

end Go.Proofs.YtgpmlhpgdalheaaGreat
