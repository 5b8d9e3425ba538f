/- 'Det' of a matrix of two rows of two numbers: its parts that only read. -/
import Derived.Test.YtgpmlhpgdalheaaGreatLawA
import Derived.LoopN
namespace Go.Proofs.YtgpmlhpgdalheaaGreat
open Go.RowKit Pl
set_option linter.unusedVariables false
set_option linter.unusedSimpArgs false

set_option maxHeartbeats 4000000 in
theorem clos2 (w : World) (R : Option Addr) (k gn : Nat) (mn : w.cell? ⟨gn, 0, none⟩ = some (.int .i64 2)) :
    Calls Tryz.prog 172 #[.slice R 2 k, .pointer (some ⟨gn, 0, none⟩)] w fun e w' => e = .returned (.bool false) ∧ w' = w := by
  go_enter Tryz.func172, Tryz.ntmps172
  go_wp2_with fail
  go_ret
  exact ⟨rfl, rfl⟩

set_option maxHeartbeats 4000000 in
theorem index2 (w : World) (b g0 g1 k0 k1 c gn : Nat) (m0 : w.cell? ⟨b, 0, none⟩ = some (.slice (some ⟨g0, 0, none⟩) 2 k0)) (m1 : w.cell? ⟨b, 1, none⟩ = some (.slice (some ⟨g1, 0, none⟩) 2 k1)) (mn : w.cell? ⟨gn, 0, none⟩ = some (.int .i64 2)) :
    Calls Tryz.prog 186 #[.slice (some ⟨b, 0, none⟩) 2 c, .func (.func 172) #[] #[.pointer (some ⟨gn, 0, none⟩)]] w fun e w' => e = .returned (.int .i64 (-1)) ∧ w' = w := by
  go_enter Tryz.func186, Tryz.ntmps186
  go_wp2_with fail
  refine wp_loop_rounds 3 ?_
  rw [rounds_succ]
  go_wp2_with fail
  refine (clos2 w (some ⟨g0, 0, none⟩) k0 gn mn).mono ?_
  rintro e w1 ⟨rfl, rfl⟩
  go_wp2_with fail
  rw [rounds_succ]
  go_wp2_with fail
  refine (clos2 w1 (some ⟨g1, 0, none⟩) k1 gn mn).mono ?_
  rintro e w2 ⟨rfl, rfl⟩
  go_wp2_with fail
  rw [rounds_succ]
  go_wp2_with fail
  go_ret
  exact ⟨rfl, rfl⟩

set_option maxHeartbeats 4000000 in
theorem contains2 (w : World) (b g0 g1 k0 k1 c gn : Nat) (m0 : w.cell? ⟨b, 0, none⟩ = some (.slice (some ⟨g0, 0, none⟩) 2 k0)) (m1 : w.cell? ⟨b, 1, none⟩ = some (.slice (some ⟨g1, 0, none⟩) 2 k1)) (mn : w.cell? ⟨gn, 0, none⟩ = some (.int .i64 2)) :
    Calls Tryz.prog 154 #[.slice (some ⟨b, 0, none⟩) 2 c, .func (.func 172) #[] #[.pointer (some ⟨gn, 0, none⟩)]] w fun e w' => e = .returned (.bool false) ∧ w' = w := by
  go_enter Tryz.func154, Tryz.ntmps154
  go_wp2_with fail
  refine (index2 w b g0 g1 k0 k1 c gn m0 m1 mn).mono ?_
  rintro e w2 ⟨rfl, rfl⟩
  go_wp2_with fail
  go_ret
  exact ⟨rfl, rfl⟩

set_option maxHeartbeats 4000000 in
theorem columns2 (w : World) (b g0 g1 k0 k1 c : Nat) (m0 : w.cell? ⟨b, 0, none⟩ = some (.slice (some ⟨g0, 0, none⟩) 2 k0)) (m1 : w.cell? ⟨b, 1, none⟩ = some (.slice (some ⟨g1, 0, none⟩) 2 k1)) (hb : b < w.heap.size) :
    Calls Tryz.prog 135 #[.slice (some ⟨b, 0, none⟩) 2 c] w fun e w' => e = .returned (.tuple #[.int .i64 2, .bool true]) ∧ Below w.heap.size w w' := by
  go_enter Tryz.func135, Tryz.ntmps135
  go_wp2_with fail
  obtain ⟨X, hX⟩ : ∃ X : World, X = w.alloc (.cells #[.int .i64 2] 3) := ⟨_, rfl⟩
  have hb1 : Below w.heap.size w X := by rw [hX]; exact (Below.refl _ _).alloc (Nat.le_refl _) _
  have mn : X.cell? ⟨w.heap.size, 0, none⟩ = some (.int .i64 2) := by subst hX; go_simp
  replace m0 := keepc hb1 m0 hb
  replace m1 := keepc hb1 m1 hb
  rw [← hX]
  clear hX
  have HB := Lib.hid hb1
  clear hb1
  go_region_held3 (fun w' => w'.cell? ⟨w.heap.size, 0, none⟩ = some (.int .i64 2)) (first | exact mn) (first
    | (go_at_call 154; refine (contains2 _ b g0 g1 k0 k1 c w.heap.size (by exact m0) (by exact m1) (by exact mn)).mono ?_; rintro e w2 ⟨rfl, rfl⟩))
  go_wp2_with fail
  refine bodyPost_ret (v := .tuple #[.int .i64 2, .bool true]) (by simp [results, Tryz.results135, go_sem]) rfl ?_
  exact ⟨rfl, ⟨HB.out.os, HB.out.tape, HB.out.output, HB.out.size, HB.out.block⟩⟩

set_option maxHeartbeats 4000000 in
theorem square2 (w : World) (b g0 g1 k0 k1 c : Nat) (m0 : w.cell? ⟨b, 0, none⟩ = some (.slice (some ⟨g0, 0, none⟩) 2 k0)) (m1 : w.cell? ⟨b, 1, none⟩ = some (.slice (some ⟨g1, 0, none⟩) 2 k1)) (hb : b < w.heap.size) :
    Calls Tryz.prog 151 #[.slice (some ⟨b, 0, none⟩) 2 c] w fun e w' => e = .returned (.bool true) ∧ Below w.heap.size w w' := by
  go_enter Tryz.func151, Tryz.ntmps151
  go_wp2_with fail
  refine (columns2 w b g0 g1 k0 k1 c m0 m1 hb).mono ?_
  rintro e w2 ⟨rfl, hb2⟩
  go_wp2_with fail
  go_ret
  exact ⟨rfl, hb2⟩

end Go.Proofs.YtgpmlhpgdalheaaGreat
