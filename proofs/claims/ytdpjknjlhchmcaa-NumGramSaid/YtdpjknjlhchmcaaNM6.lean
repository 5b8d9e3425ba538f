/- Part 6 of the proof. -/
import Derived.Test.YtdpjknjlhchmcaaNM4
import Derived.Test.YtdpjknjlhchmcaaNM5
import Derived.Deep.LoopGhost
import Derived.Maps.AppendAt
import Derived.Test.YtdpjknjlhchmcaaNM3
import Derived.Test.YtdpjknjlhchmcaaNM2
import Derived.Laws.CopyRow
namespace Go.Proofs.Ytdpjknjlhchmcaa
open Go.RowKit Pl
set_option linter.unusedVariables false
set_option linter.unusedSimpArgs false
/-- A number of the reference lies at the offset o of the block g. -/
def QE (w : World) (g o : Nat) (q : Cx) : Prop := ∃ A1 A2 A3 k1 k2 k3, (w.cell? ⟨g, o, none⟩ = some (.bool (sn (na q))) ∧ w.cell? ⟨g, o + 1, none⟩ = some (.slice A1 (ln (ab (na q))) k1) ∧ w.cell? ⟨g, o + 2, none⟩ = some (.bool (sn (nb q))) ∧ w.cell? ⟨g, o + 3, none⟩ = some (.slice A2 (ln (ab (nb q))) k2) ∧ w.cell? ⟨g, o + 4, none⟩ = some (.slice A3 (ln (nd q)) k3)) ∧ Num3C w A1 A2 A3 q
theorem QE.lt {w : World} {g o : Nat} {q : Cx} (h : QE w g o q) : g < w.heap.size := by
  obtain ⟨_, _, _, _, _, _, ⟨c0, _⟩, _⟩ := h
  exact World.block_lt_of_cell? w ⟨g, o, none⟩ c0
theorem QE.to {w w' : World} {g o : Nat} {q : Cx} (h : QE w g o q) (hb : Below w.heap.size w w') : QE w' g o q := by
  have l := h.lt
  obtain ⟨A1, A2, A3, k1, k2, k3, ⟨c0, c1, c2, c3, c4⟩, n⟩ := h
  exact ⟨A1, A2, A3, k1, k2, k3, ⟨keepc hb c0 l, keepc hb c1 l, keepc hb c2 l, keepc hb c3 l, keepc hb c4 l⟩, n.to hb⟩
end Go.Proofs.Ytdpjknjlhchmcaa

namespace Go.Proofs.Ytdpjknjlhchmcaa
open Go.RowKit Pl
set_option linter.unusedVariables false
set_option linter.unusedSimpArgs false
/-- Slices of triples. -/
def Tables (w : World) (A : Option Addr) (n : Nat) (N : Nat → Nat) (X Y Z : Nat → Nat → Int) : Prop := ∃ R K, Grid w A n R N K ∧ ∀ i, i < n → Triples w (R i) (N i) (X i) (Y i) (Z i)
theorem Tables.to {w w' : World} {A : Option Addr} {n : Nat} {N : Nat → Nat} {X Y Z : Nat → Nat → Int} (h : Tables w A n N X Y Z) (hb : Below w.heap.size w w') : Tables w' A n N X Y Z := by
  obtain ⟨R, K, h1, h2⟩ := h; exact ⟨R, K, h1.to hb, fun i hi => (h2 i hi).to hb⟩
/-- A cell of a block whose first cell is a slice is set. -/
theorem nat_setS {w : World} {p o n a b : Nat} {A S : Option Addr} {v : Value} (h : Nat32 w A n) (u : w.cell? ⟨p, 0, none⟩ = some (.slice S a b)) : Nat32 (w.setCell ⟨p, o, none⟩ v) A n :=
  h.setBox u (by intro k m e; cases e)
/-- 'make' of n slices. -/
def mkS (w : World) (n : Nat) (T : TypeId) : World := w.alloc (.cells (madeCells #[.slice none 0 0] n) T)
theorem mkS_size (w : World) (n : Nat) (T : TypeId) : (mkS w n T).heap.size = w.heap.size + 1 := by simp [mkS]
theorem mkS_below (w : World) (n : Nat) (T : TypeId) : Below w.heap.size w (mkS w n T) := (Below.refl _ _).alloc (Nat.le_refl _) _
theorem mkS_row (w : World) (n : Nat) (T : TypeId) : (mkS w n T).rowIs w.heap.size T n (fun _ => .slice none 0 0) := by
  have h := World.rowIs_alloc w (madeCells #[.slice none 0 0] n) T (fun _ => .slice none 0 0) (fun i hi => by rw [size_madeCells] at hi; simp [madeCells, hi, Nat.mod_one])
  rwa [size_madeCells] at h
theorem Try.info_nums : (Try.prog.info? 42).map (fun i => (i.zero, i.size, i.bytes)) = some (some (.slice none 0 0), 1, 24) := by kernel_rfl
theorem Try.und_nums2 : Try.prog.underlying 24 = some (.slice 42) := by kernel_rfl
theorem mk_nums2 (n : Nat) (hn : n ≤ 100000) (w : World) : (Instr.makeSlice 24 (.int .i64 (n : Int)) (.int .i64 (n : Int))).run Try.prog w = .ok (.slice (some ⟨w.heap.size, 0, none⟩) n n) (mkS w n 42) := by
  obtain ⟨i, hi, hz, hs, hb⟩ := info_parts Try.info_nums
  have := run_make (P := Try.prog) w 24 _ i _ Try.und_nums2 hi hz .i64 .i64 n n (by omega) (by omega) (by rw [hb]; omega) (by omega)
  simpa [hs, mkS, Value.cells] using this
/-- A matrix in memory. -/
def MatP (w : World) (A : Option Addr) (n : Nat) (N : Nat → Nat) (f : Nat → Nat → Cx) : Prop := ∃ R K, Grid w A n R N K ∧ ∀ i, i < n → ∀ j, j < N i → ∃ g, R i = some ⟨g, 0, none⟩ ∧ PE w g (j * 5) (f i j)
theorem MatP.to {w w' : World} {A : Option Addr} {n : Nat} {N : Nat → Nat} {f : Nat → Nat → Cx} (h : MatP w A n N f) (hb : Below w.heap.size w w') : MatP w' A n N f := by
  obtain ⟨R, K, h1, h2⟩ := h
  exact ⟨R, K, h1.to hb, fun i hi j hj => by obtain ⟨g, e, p⟩ := h2 i hi j hj; exact ⟨g, e, p.to hb⟩⟩
theorem PE.setS {w : World} {g p o i a b : Nat} {S : Option Addr} {r : Cx} {v : Value} (h : PE w g i r) (hn : g ≠ p) (u : w.cell? ⟨p, 0, none⟩ = some (.slice S a b)) : PE (w.setCell ⟨p, o, none⟩ v) g i r := by
  obtain ⟨A1, A2, A3, ⟨c0, c1, c2, c3, c4⟩, n1, n2, n3⟩ := h
  exact ⟨A1, A2, A3, ⟨keepo c0 (.inl hn), keepo c1 (.inl hn), keepo c2 (.inl hn), keepo c3 (.inl hn), keepo c4 (.inl hn)⟩, nat_setS n1 u, nat_setS n2 u, nat_setS n3 u⟩
def RetMatP (w : World) (n : Nat) (N : Nat → Nat) (f : Nat → Nat → Cx) (e : Ending) (w' : World) : Prop := ∃ A c, e = .returned (.slice A n c) ∧ MatP w' A n N f ∧ Below w.heap.size w w'
/-- A matrix in memory. -/
def MatQ (w : World) (A : Option Addr) (n : Nat) (N : Nat → Nat) (f : Nat → Nat → Cx) : Prop := ∃ R K, Grid w A n R N K ∧ ∀ i, i < n → ∀ j, j < N i → ∃ g, R i = some ⟨g, 0, none⟩ ∧ QE w g (j * 5) (f i j)
theorem MatQ.to {w w' : World} {A : Option Addr} {n : Nat} {N : Nat → Nat} {f : Nat → Nat → Cx} (h : MatQ w A n N f) (hb : Below w.heap.size w w') : MatQ w' A n N f := by
  obtain ⟨R, K, h1, h2⟩ := h
  exact ⟨R, K, h1.to hb, fun i hi j hj => by obtain ⟨g, e, p⟩ := h2 i hi j hj; exact ⟨g, e, p.to hb⟩⟩
theorem QE.setS {w : World} {g p o i a b : Nat} {S : Option Addr} {r : Cx} {v : Value} (h : QE w g i r) (hn : g ≠ p) (u : w.cell? ⟨p, 0, none⟩ = some (.slice S a b)) : QE (w.setCell ⟨p, o, none⟩ v) g i r := by
  obtain ⟨A1, A2, A3, k1, k2, k3, ⟨c0, c1, c2, c3, c4⟩, n1, n2, n3⟩ := h
  exact ⟨A1, A2, A3, k1, k2, k3, ⟨keepo c0 (.inl hn), keepo c1 (.inl hn), keepo c2 (.inl hn), keepo c3 (.inl hn), keepo c4 (.inl hn)⟩, nat_setS n1 u, nat_setS n2 u, nat_setS n3 u⟩
end Go.Proofs.Ytdpjknjlhchmcaa

namespace Go.Proofs.Ytdpjknjlhchmcaa
open Go.RowKit Pl
set_option linter.unusedVariables false
set_option linter.unusedSimpArgs false
set_option maxHeartbeats 4000000 in
theorem clos_any (w : World) (R : Option Addr) (m k gn v : Nat) (mn : w.cell? ⟨gn, 0, none⟩ = some (.int .i64 v)) (b : Bool) (hb : ((m : Int) != (v : Int)) = b) :
    Calls Try.prog 54 #[.slice R m k, .pointer (some ⟨gn, 0, none⟩)] w fun e w' => e = .returned (.bool b) ∧ w' = w := by
  go_enter Try.func54, Try.ntmps54
  go_wp2_with fail
  go_ret
  exact ⟨rfl, rfl⟩
set_option maxHeartbeats 4000000 in
theorem index_any (w : World) (A : Option Addr) (n c gn v : Nat) (R : Nat → Option Addr) (N K : Nat → Nat) (hG : Grid w A n R N K) (hn : n ≤ 1000) (mn : w.cell? ⟨gn, 0, none⟩ = some (.int .i64 v)) :
    Calls Try.prog 45 #[.slice A n c, .func (.func 54) #[] #[.pointer (some ⟨gn, 0, none⟩)]] w fun e w' => ∃ r : Int, e = .returned (.int .i64 r) ∧ ((r = -1 ∧ ∀ i, i < n → N i = v) ∨ (0 ≤ r ∧ ∃ i, i < n ∧ N i ≠ v)) ∧ w' = w := by
  go_enter Try.func45, Try.ntmps45
  go_wp2_with fail
  go_loopw [8] (fun i wr => ∃ k : Nat, k ≤ n ∧ i = .int .i64 k ∧ (∀ j, j < k → N j = v) ∧ wr = w) (fun i _ => n - (intOf i).toNat)
  case atStart => exact ⟨0, Nat.zero_le _, rfl, fun j hj => absurd hj (by omega), rfl⟩
  case round =>
    obtain ⟨k, hk, rfl, hall, rfl⟩ := hrel
    have HA := Lib.hid hall
    clear hall
    by_cases hlt : k < n
    · obtain ⟨b, off, rfl, hl, d0⟩ := hG k hlt
      by_cases hv : N k = v
      · have t1 : ((N k : Int) != (v : Int)) = false := by rw [bne_eq_false_iff_eq]; omega
        have HV := Lib.hid hv
        clear hv
        go_wp2_with fail
        refine (clos_any wr (R k) (N k) (K k) gn v mn false t1).mono ?_
        rintro e w1 ⟨rfl, rfl⟩
        go_wp2_with fail
        go_roundw
        case rel => exact ⟨k + 1, by omega, by go_num, fun j hj => by
          by_cases e : j = k
          · subst e; exact HV.out
          · exact HA.out j (by omega), trivial⟩
        case measure => simp [intOf]; omega
      · have t1 : ((N k : Int) != (v : Int)) = true := by rw [bne_iff_ne]; omega
        have HV := Lib.hid hv
        clear hv
        go_wp2_with fail
        refine (clos_any wr (R k) (N k) (K k) gn v mn true t1).mono ?_
        rintro e w1 ⟨rfl, rfl⟩
        go_wp2_with fail
        go_ret
        exact ⟨k, rfl, .inr ⟨by omega, k, hlt, HV.out⟩, rfl⟩
    · obtain rfl : k = n := by omega
      go_wp2_with fail
      go_ret
      exact ⟨-1, rfl, .inl ⟨rfl, HA.out⟩, rfl⟩
set_option maxHeartbeats 4000000 in
theorem contains_any (w : World) (A : Option Addr) (n c gn v : Nat) (R : Nat → Option Addr) (N K : Nat → Nat) (hG : Grid w A n R N K) (hn : n ≤ 1000) (mn : w.cell? ⟨gn, 0, none⟩ = some (.int .i64 v)) (b : Bool) (hb : b = false ↔ ∀ i, i < n → N i = v) :
    Calls Try.prog 29 #[.slice A n c, .func (.func 54) #[] #[.pointer (some ⟨gn, 0, none⟩)]] w fun e w' => e = .returned (.bool b) ∧ w' = w := by
  have HB := Lib.hid hb
  clear hb
  go_enter Try.func29, Try.ntmps29
  go_wp2_with fail
  refine (index_any w A n c gn v R N K hG hn mn).mono ?_
  rintro e w2 ⟨r, rfl, hr, rfl⟩
  have t : decide (0 ≤ r) = b := by
    rcases hr with ⟨h1, h2⟩ | ⟨h1, i, hi, h2⟩
    · rw [HB.out.2 h2, decide_eq_false_iff_not]; omega
    · cases b with
      | true => rw [decide_eq_true_eq]; exact h1
      | false => exact absurd (HB.out.1 rfl i hi) h2
  clear hr
  go_wp2_with fail
  go_ret
  exact ⟨rfl, rfl⟩
/-- All rows are equally long, and nothing is longer than 32. -/
def Valid (n : Nat) (N : Nat → Nat) : Prop := n = 0 ∨ (n ≤ 32 ∧ N 0 ≤ 32 ∧ ∀ i, i < n → N i = N 0)
def colN (n : Nat) (N : Nat → Nat) : Nat := if n = 0 then 0 else N 0
def RetCol (w : World) (v : Nat) (ok : Bool) (e : Ending) (w' : World) : Prop := e = .returned (.tuple #[.int .i64 (v : Int), .bool ok]) ∧ Below w.heap.size w w'
set_option maxRecDepth 100000 in
set_option maxHeartbeats 4000000 in
theorem columns_any (w : World) (A : Option Addr) (n c : Nat) (R : Nat → Option Addr) (N K : Nat → Nat) (hG : Grid w A n R N K) (hn : n ≤ 1000) (hN : ∀ i, i < n → N i ≤ 1000) (ok : Bool) (hok : ok = true ↔ Valid n N) :
    Calls Try.prog 25 #[.slice A n c] w (RetCol w (colN n N) ok) := by
  by_cases h0 : n = 0
  · have t0 : ((n : Int) == 0) = true := by simpa using h0
    obtain rfl : ok = true := hok.2 (.inl h0)
    have e0 : colN n N = 0 := by unfold colN; rw [if_pos h0]
    rw [e0]
    clear h0 hok hN hn hG e0
    go_enter Try.func25, Try.ntmps25
    go_wp2_with fail
    exact bodyPost_ret (v := .tuple #[.int .i64 0, .bool true]) (by simp [results, Try.results25, go_sem]) rfl ⟨rfl, Below.refl _ _⟩
  · have t0 : ((n : Int) == 0) = false := by simpa using h0
    have e0 : colN n N = N 0 := by unfold colN; rw [if_neg h0]
    rw [e0]
    obtain ⟨v, hv⟩ : ∃ v, v = N 0 := ⟨_, rfl⟩
    have hv2 : v ≤ 1000 := by rw [hv]; exact hN 0 (by omega)
    have HOK : Hid (ok = true ↔ (n ≤ 32 ∧ v ≤ 32 ∧ ∀ i, i < n → N i = v)) := Lib.hid (by
      rw [hok, hv]; unfold Valid
      exact ⟨fun h => h.resolve_left h0, fun h => .inr h⟩)
    obtain ⟨b0, fo, rfl, hl, d0⟩ := hG 0 (by omega)
    rw [Nat.add_zero, ← hv] at d0
    rw [← hv]
    have HG := Lib.hid hG
    clear hok hN hG hv e0
    by_cases c1 : n ≤ 32
    · have t1 : decide ((n : Int) ≤ 32) = true := by rw [decide_eq_true_eq]; omega
      by_cases c2 : v ≤ 32
      · have t2 : decide ((v : Int) ≤ 32) = true := by rw [decide_eq_true_eq]; omega
        go_enter Try.func25, Try.ntmps25
        go_wp2_with fail
        obtain ⟨X, hX⟩ : ∃ X : World, X = w.alloc (.cells #[.int .i64 v] 3) := ⟨_, rfl⟩
        have hb1 : Below w.heap.size w X := by rw [hX]; exact (Below.refl _ _).alloc (Nat.le_refl _) _
        have mn : X.cell? ⟨w.heap.size, 0, none⟩ = some (.int .i64 v) := by subst hX; go_simp
        rw [← hX]
        have hG2 := HG.out.to hb1
        have HB := Lib.hid hb1
        clear hb1 hX d0
        have hc : (!ok) = false ↔ ∀ i, i < n → N i = v := by
          rw [Bool.not_eq_false', HOK.out]; exact ⟨fun h => h.2.2, fun h => ⟨c1, c2, h⟩⟩
        obtain ⟨bb, hbb⟩ : ∃ b, b = !ok := ⟨_, rfl⟩
        have hok2 : (!bb) = ok := by rw [hbb, Bool.not_not]
        rw [← hbb] at hc
        have HC := Lib.hid hc
        clear hc hbb
        go_region_held3 (fun w' => w'.cell? ⟨w.heap.size, 0, none⟩ = some (.int .i64 v)) (first | exact mn) (first
          | (go_at_call 29; refine (contains_any _ (some ⟨b0, fo, none⟩) n c w.heap.size v R N K (by exact hG2) hn (by exact mn) bb HC.out).mono ?_; rintro e w2 ⟨rfl, rfl⟩))
        go_wp2_with fail
        refine bodyPost_ret (v := .tuple #[.int .i64 v, .bool ok]) (by simp [results, Try.results25, go_sem, hok2]) rfl ?_
        exact ⟨rfl, ⟨HB.out.os, HB.out.tape, HB.out.output, HB.out.size, HB.out.block⟩⟩
      · have t2 : decide ((v : Int) ≤ 32) = false := by rw [decide_eq_false_iff_not]; omega
        obtain rfl : ok = false := by
          cases ok with
          | false => rfl
          | true => exact absurd (HOK.out.1 rfl).2.1 c2
        go_enter Try.func25, Try.ntmps25
        go_wp2_with fail
        obtain ⟨X, hX⟩ : ∃ X : World, X = w.alloc (.cells #[.int .i64 v] 3) := ⟨_, rfl⟩
        have hb1 : Below w.heap.size w X := by rw [hX]; exact (Below.refl _ _).alloc (Nat.le_refl _) _
        have mn : X.cell? ⟨w.heap.size, 0, none⟩ = some (.int .i64 v) := by subst hX; go_simp
        rw [← hX]
        clear hX d0 HG HOK
        refine wp_region_any (by kernel_rfl) ?_
        refine wpAny_inv (fun l a' w' => ∃ V : Nat → Value, OnAll l V (fun j => List.getD [.int .i64 v, .slice (some ⟨b0, fo, none⟩) n c, .int .i64 n, .bool true, .bool true, .int .i64 v, .bool false, .bool false, .bool false, undef, undef, undef, undef, .bool false, .int .i64 v, .bool false] j undef) ∧ a' = ⟨#[.slice (some ⟨b0, fo, none⟩) n c, undef, V 14, V 15, .pointer (some ⟨w.heap.size, 0, none⟩), .slice (some ⟨b0, fo, none⟩) n c, .int .i64 n, .bool false, .slice (some ⟨b0, fo, none⟩) n c, .pointer (some ⟨b0, fo, none⟩), .slice (R 0) v (K 0), .int .i64 v, V 0, V 1, V 2, V 3, V 4, V 5, V 6, V 7, V 8, V 9, V 10, V 11, V 12, V 13], []⟩ ∧ (w'.cell? ⟨w.heap.size, 0, none⟩ = some (.int .i64 v) ∧ Below w.heap.size w w') ∧ l.size = 16) ?_ ?_ _ _ _ _ (by decide) ?_
        · intro l a' W' i hi hI
          obtain ⟨V, hv, rfl, HW, hz⟩ := hI
          obtain ⟨hlt, _, hpre⟩ := ready_pre hi
          have hc : i ∈ [0, 1, 2, 3, 4, 5, 6, 7, 8, 9, 10, 11, 12, 13, 14, 15] := (by decide : ∀ i, i < 16 → i ∈ [0, 1, 2, 3, 4, 5, 6, 7, 8, 9, 10, 11, 12, 13, 14, 15]) i hlt
          simp only [List.mem_cons, List.not_mem_nil, or_false] at hc
          clear hi hlt
          rcases hc with rfl | rfl | rfl | rfl | rfl | rfl | rfl | rfl | rfl | rfl | rfl | rfl | rfl | rfl | rfl | rfl <;> (have hp := hpre _ rfl; simp [Region.binds] at hp; clear hpre)
          · skip
            have HV := Lib.hid hv
            clear hv hp
            have z0 := HW.1
            refine wpOp_go rfl rfl (fun K hK => ?_)
            go_simp
            refine hK _ _ ?_
            exact ⟨_, HV.out.new (x := .int .i64 v) rfl, rfl, HW, by simp [hz]⟩
          · skip
            have HV := Lib.hid hv
            clear hv hp
            refine wpOp_go rfl rfl (fun K hK => ?_)
            go_simp
            refine hK _ _ ?_
            exact ⟨_, HV.out.new (x := .slice (some ⟨b0, fo, none⟩) n c) rfl, rfl, HW, by simp [hz]⟩
          · skip
            have e1 : V 1 = .slice (some ⟨b0, fo, none⟩) n c := hv.get 1 (by simp [hp])
            have HV := Lib.hid (hv.fix e1 rfl)
            clear hv hp
            simp only [e1]
            refine wpOp_go rfl rfl (fun K hK => ?_)
            go_simp
            refine hK _ _ ?_
            exact ⟨_, HV.out.new (x := .int .i64 n) rfl, rfl, HW, by simp [hz]⟩
          · skip
            have e2 : V 2 = .int .i64 n := hv.get 2 (by simp [hp])
            have HV := Lib.hid (hv.fix e2 rfl)
            clear hv hp
            simp only [e2]
            refine wpOp_go rfl rfl (fun K hK => ?_)
            go_simp
            refine hK _ _ ?_
            exact ⟨_, HV.out.new (x := .bool true) rfl, rfl, HW, by simp [hz]⟩
          · skip
            have e3 : V 3 = .bool true := hv.get 3 (by simp [hp])
            have HV := Lib.hid (hv.fix e3 rfl)
            clear hv hp
            simp only [e3]
            refine wpOp_go rfl rfl (fun K hK => ?_)
            go_simp
            refine hK _ _ ?_
            exact ⟨_, HV.out.new (x := .bool true) rfl, rfl, HW, by simp [hz]⟩
          · skip
            have e4 : V 4 = .bool true := hv.get 4 (by simp [hp])
            have HV := Lib.hid (hv.fix e4 rfl)
            clear hv hp
            simp only [e4]
            have z0 := HW.1
            refine wpOp_gg rfl rfl (fun K hK => ?_)
            go_simp
            refine hK _ _ ?_
            exact ⟨_, HV.out.new (x := .int .i64 v) rfl, rfl, HW, by simp [hz]⟩
          · skip
            have e5 : V 5 = .int .i64 v := hv.get 5 (by simp [hp])
            have e4 : V 4 = .bool true := hv.get 4 (by simp [hp])
            have HV := Lib.hid ((hv.fix e5 rfl).fix (i := 4) (x := .bool true) e4 rfl)
            clear hv hp
            simp only [e5, e4]
            refine wpOp_gg rfl rfl (fun K hK => ?_)
            go_simp
            refine hK _ _ ?_
            exact ⟨_, HV.out.new (x := .bool false) rfl, rfl, HW, by simp [hz]⟩
          · skip
            have e4 : V 4 = .bool true := hv.get 4 (by simp [hp])
            have e6 : V 6 = .bool false := hv.get 6 (by simp [hp])
            have HV := Lib.hid ((hv.fix e4 rfl).fix (i := 6) (x := .bool false) e6 rfl)
            clear hv hp
            simp only [e4, e6]
            refine wpOp_go rfl rfl (fun K hK => ?_)
            go_simp
            refine hK _ _ ?_
            exact ⟨_, HV.out.new (x := .bool false) rfl, rfl, HW, by simp [hz]⟩
          · skip
            have e7 : V 7 = .bool false := hv.get 7 (by simp [hp])
            have HV := Lib.hid (hv.fix e7 rfl)
            clear hv hp
            simp only [e7]
            refine wpOp_go rfl rfl (fun K hK => ?_)
            go_simp
            refine hK _ _ ?_
            exact ⟨_, HV.out.new (x := .bool false) rfl, rfl, HW, by simp [hz]⟩
          · skip
            have e8 : V 8 = .bool false := hv.get 8 (by simp [hp])
            have HV := Lib.hid (hv.fix e8 rfl)
            clear hv hp
            simp only [e8]
            refine wpOp_sk rfl rfl (fun K hK => ?_)
            refine hK _ _ ?_
            exact ⟨_, HV.out.new (x := undef) rfl, rfl, HW, by simp [hz]⟩
          · skip
            have e8 : V 8 = .bool false := hv.get 8 (by simp [hp])
            have HV := Lib.hid (hv.fix e8 rfl)
            clear hv hp
            simp only [e8]
            refine wpOp_sk rfl rfl (fun K hK => ?_)
            refine hK _ _ ?_
            exact ⟨_, HV.out.new (x := undef) rfl, rfl, HW, by simp [hz]⟩
          · skip
            have e8 : V 8 = .bool false := hv.get 8 (by simp [hp])
            have HV := Lib.hid (hv.fix e8 rfl)
            clear hv hp
            simp only [e8]
            refine wpOp_sk rfl rfl (fun K hK => ?_)
            refine hK _ _ ?_
            exact ⟨_, HV.out.new (x := undef) rfl, rfl, HW, by simp [hz]⟩
          · skip
            have e8 : V 8 = .bool false := hv.get 8 (by simp [hp])
            have HV := Lib.hid (hv.fix e8 rfl)
            clear hv hp
            simp only [e8]
            refine wpOp_sk rfl rfl (fun K hK => ?_)
            refine hK _ _ ?_
            exact ⟨_, HV.out.new (x := undef) rfl, rfl, HW, by simp [hz]⟩
          · skip
            have e8 : V 8 = .bool false := hv.get 8 (by simp [hp])
            have HV := Lib.hid (hv.fix e8 rfl)
            clear hv hp
            simp only [e8]
            refine wpOp_go rfl rfl (fun K hK => ?_)
            go_simp
            refine hK _ _ ?_
            exact ⟨_, HV.out.new (x := .bool false) rfl, rfl, HW, by simp [hz]⟩
          · skip
            have e0 : V 0 = .int .i64 v := hv.get 0 (by simp [hp])
            have HV := Lib.hid (hv.fix e0 rfl)
            clear hv hp
            simp only [e0]
            refine wpOp_go rfl rfl (fun K hK => ?_)
            go_simp
            refine hK _ _ ?_
            exact ⟨_, HV.out.new (x := .int .i64 v) rfl, rfl, HW, by simp [hz]⟩
          · skip
            have e13 : V 13 = .bool false := hv.get 13 (by simp [hp])
            have HV := Lib.hid (hv.fix e13 rfl)
            clear hv hp
            simp only [e13]
            refine wpOp_go rfl rfl (fun K hK => ?_)
            go_simp
            refine hK _ _ ?_
            exact ⟨_, HV.out.new (x := .bool false) rfl, rfl, HW, by simp [hz]⟩
        · intro l a' W' hr hI
          obtain ⟨V, hv, rfl, HW, hz⟩ := hI
          have a0 := not_ready (i := 0) hr hz rfl (by simp [Region.binds])
          have a1 := not_ready (i := 1) hr hz rfl (by simp [Region.binds, a0])
          have a2 := not_ready (i := 2) hr hz rfl (by simp [Region.binds, a0, a1])
          have a3 := not_ready (i := 3) hr hz rfl (by simp [Region.binds, a0, a1, a2])
          have a4 := not_ready (i := 4) hr hz rfl (by simp [Region.binds, a0, a1, a2, a3])
          have a5 := not_ready (i := 5) hr hz rfl (by simp [Region.binds, a0, a1, a2, a3, a4])
          have a6 := not_ready (i := 6) hr hz rfl (by simp [Region.binds, a0, a1, a2, a3, a4, a5])
          have a7 := not_ready (i := 7) hr hz rfl (by simp [Region.binds, a0, a1, a2, a3, a4, a5, a6])
          have a8 := not_ready (i := 8) hr hz rfl (by simp [Region.binds, a0, a1, a2, a3, a4, a5, a6, a7])
          have a9 := not_ready (i := 9) hr hz rfl (by simp [Region.binds, a0, a1, a2, a3, a4, a5, a6, a7, a8])
          have a10 := not_ready (i := 10) hr hz rfl (by simp [Region.binds, a0, a1, a2, a3, a4, a5, a6, a7, a8, a9])
          have a11 := not_ready (i := 11) hr hz rfl (by simp [Region.binds, a0, a1, a2, a3, a4, a5, a6, a7, a8, a9, a10])
          have a12 := not_ready (i := 12) hr hz rfl (by simp [Region.binds, a0, a1, a2, a3, a4, a5, a6, a7, a8, a9, a10, a11])
          have a13 := not_ready (i := 13) hr hz rfl (by simp [Region.binds, a0, a1, a2, a3, a4, a5, a6, a7, a8, a9, a10, a11, a12])
          have a14 := not_ready (i := 14) hr hz rfl (by simp [Region.binds, a0, a1, a2, a3, a4, a5, a6, a7, a8, a9, a10, a11, a12, a13])
          have a15 := not_ready (i := 15) hr hz rfl (by simp [Region.binds, a0, a1, a2, a3, a4, a5, a6, a7, a8, a9, a10, a11, a12, a13, a14])
          clear hr
          have e14 : V 14 = .int .i64 v := hv.get 14 a14
          have e15 : V 15 = .bool false := hv.get 15 a15
          simp only [e14, e15]
          clear hv a0 a1 a2 a3 a4 a5 a6 a7 a8 a9 a10 a11 a12 a13 a14 a15
          go_wp2_with fail
          exact bodyPost_ret (v := .tuple #[.int .i64 v, .bool false]) (by simp [results, Try.results25, go_sem]) rfl ⟨rfl, HW.2⟩
        · exact ⟨fun j => List.getD [undef, undef, undef, undef, undef, undef, undef, undef, undef, undef, undef, undef, undef, undef, .int .i64 0, .bool false] j undef, OnAll.start, rfl, ⟨mn, ⟨hb1.os, hb1.tape, hb1.output, hb1.size, hb1.block⟩⟩, by simp⟩
    · have t1 : decide ((n : Int) ≤ 32) = false := by rw [decide_eq_false_iff_not]; omega
      obtain rfl : ok = false := by
        cases ok with
        | false => rfl
        | true => exact absurd (HOK.out.1 rfl).1 c1
      go_enter Try.func25, Try.ntmps25
      go_wp2_with fail
      obtain ⟨X, hX⟩ : ∃ X : World, X = w.alloc (.cells #[.int .i64 v] 3) := ⟨_, rfl⟩
      have hb1 : Below w.heap.size w X := by rw [hX]; exact (Below.refl _ _).alloc (Nat.le_refl _) _
      have mn : X.cell? ⟨w.heap.size, 0, none⟩ = some (.int .i64 v) := by subst hX; go_simp
      rw [← hX]
      clear hX d0 HG HOK
      refine wp_region_any (by kernel_rfl) ?_
      refine wpAny_inv (fun l a' w' => ∃ V : Nat → Value, OnAll l V (fun j => List.getD [.int .i64 v, .slice (some ⟨b0, fo, none⟩) n c, .int .i64 n, .bool false, .bool false, undef, undef, .bool false, .bool false, undef, undef, undef, undef, .bool false, .int .i64 v, .bool false] j undef) ∧ a' = ⟨#[.slice (some ⟨b0, fo, none⟩) n c, undef, V 14, V 15, .pointer (some ⟨w.heap.size, 0, none⟩), .slice (some ⟨b0, fo, none⟩) n c, .int .i64 n, .bool false, .slice (some ⟨b0, fo, none⟩) n c, .pointer (some ⟨b0, fo, none⟩), .slice (R 0) v (K 0), .int .i64 v, V 0, V 1, V 2, V 3, V 4, V 5, V 6, V 7, V 8, V 9, V 10, V 11, V 12, V 13], []⟩ ∧ (w'.cell? ⟨w.heap.size, 0, none⟩ = some (.int .i64 v) ∧ Below w.heap.size w w') ∧ l.size = 16) ?_ ?_ _ _ _ _ (by decide) ?_
      · intro l a' W' i hi hI
        obtain ⟨V, hv, rfl, HW, hz⟩ := hI
        obtain ⟨hlt, _, hpre⟩ := ready_pre hi
        have hc : i ∈ [0, 1, 2, 3, 4, 5, 6, 7, 8, 9, 10, 11, 12, 13, 14, 15] := (by decide : ∀ i, i < 16 → i ∈ [0, 1, 2, 3, 4, 5, 6, 7, 8, 9, 10, 11, 12, 13, 14, 15]) i hlt
        simp only [List.mem_cons, List.not_mem_nil, or_false] at hc
        clear hi hlt
        rcases hc with rfl | rfl | rfl | rfl | rfl | rfl | rfl | rfl | rfl | rfl | rfl | rfl | rfl | rfl | rfl | rfl <;> (have hp := hpre _ rfl; simp [Region.binds] at hp; clear hpre)
        · skip
          have HV := Lib.hid hv
          clear hv hp
          have z0 := HW.1
          refine wpOp_go rfl rfl (fun K hK => ?_)
          go_simp
          refine hK _ _ ?_
          exact ⟨_, HV.out.new (x := .int .i64 v) rfl, rfl, HW, by simp [hz]⟩
        · skip
          have HV := Lib.hid hv
          clear hv hp
          refine wpOp_go rfl rfl (fun K hK => ?_)
          go_simp
          refine hK _ _ ?_
          exact ⟨_, HV.out.new (x := .slice (some ⟨b0, fo, none⟩) n c) rfl, rfl, HW, by simp [hz]⟩
        · skip
          have e1 : V 1 = .slice (some ⟨b0, fo, none⟩) n c := hv.get 1 (by simp [hp])
          have HV := Lib.hid (hv.fix e1 rfl)
          clear hv hp
          simp only [e1]
          refine wpOp_go rfl rfl (fun K hK => ?_)
          go_simp
          refine hK _ _ ?_
          exact ⟨_, HV.out.new (x := .int .i64 n) rfl, rfl, HW, by simp [hz]⟩
        · skip
          have e2 : V 2 = .int .i64 n := hv.get 2 (by simp [hp])
          have HV := Lib.hid (hv.fix e2 rfl)
          clear hv hp
          simp only [e2]
          refine wpOp_go rfl rfl (fun K hK => ?_)
          go_simp
          refine hK _ _ ?_
          exact ⟨_, HV.out.new (x := .bool false) rfl, rfl, HW, by simp [hz]⟩
        · skip
          have e3 : V 3 = .bool false := hv.get 3 (by simp [hp])
          have HV := Lib.hid (hv.fix e3 rfl)
          clear hv hp
          simp only [e3]
          refine wpOp_go rfl rfl (fun K hK => ?_)
          go_simp
          refine hK _ _ ?_
          exact ⟨_, HV.out.new (x := .bool false) rfl, rfl, HW, by simp [hz]⟩
        · skip
          have e4 : V 4 = .bool false := hv.get 4 (by simp [hp])
          have HV := Lib.hid (hv.fix e4 rfl)
          clear hv hp
          simp only [e4]
          refine wpOp_sk rfl rfl (fun K hK => ?_)
          refine hK _ _ ?_
          exact ⟨_, HV.out.new (x := undef) rfl, rfl, HW, by simp [hz]⟩
        · skip
          have e4 : V 4 = .bool false := hv.get 4 (by simp [hp])
          have HV := Lib.hid (hv.fix e4 rfl)
          clear hv hp
          simp only [e4]
          refine wpOp_sk rfl rfl (fun K hK => ?_)
          refine hK _ _ ?_
          exact ⟨_, HV.out.new (x := undef) rfl, rfl, HW, by simp [hz]⟩
        · skip
          have e4 : V 4 = .bool false := hv.get 4 (by simp [hp])
          have HV := Lib.hid (hv.fix e4 rfl)
          clear hv hp
          simp only [e4]
          refine wpOp_go rfl rfl (fun K hK => ?_)
          go_simp
          refine hK _ _ ?_
          exact ⟨_, HV.out.new (x := .bool false) rfl, rfl, HW, by simp [hz]⟩
        · skip
          have e7 : V 7 = .bool false := hv.get 7 (by simp [hp])
          have HV := Lib.hid (hv.fix e7 rfl)
          clear hv hp
          simp only [e7]
          refine wpOp_go rfl rfl (fun K hK => ?_)
          go_simp
          refine hK _ _ ?_
          exact ⟨_, HV.out.new (x := .bool false) rfl, rfl, HW, by simp [hz]⟩
        · skip
          have e8 : V 8 = .bool false := hv.get 8 (by simp [hp])
          have HV := Lib.hid (hv.fix e8 rfl)
          clear hv hp
          simp only [e8]
          refine wpOp_sk rfl rfl (fun K hK => ?_)
          refine hK _ _ ?_
          exact ⟨_, HV.out.new (x := undef) rfl, rfl, HW, by simp [hz]⟩
        · skip
          have e8 : V 8 = .bool false := hv.get 8 (by simp [hp])
          have HV := Lib.hid (hv.fix e8 rfl)
          clear hv hp
          simp only [e8]
          refine wpOp_sk rfl rfl (fun K hK => ?_)
          refine hK _ _ ?_
          exact ⟨_, HV.out.new (x := undef) rfl, rfl, HW, by simp [hz]⟩
        · skip
          have e8 : V 8 = .bool false := hv.get 8 (by simp [hp])
          have HV := Lib.hid (hv.fix e8 rfl)
          clear hv hp
          simp only [e8]
          refine wpOp_sk rfl rfl (fun K hK => ?_)
          refine hK _ _ ?_
          exact ⟨_, HV.out.new (x := undef) rfl, rfl, HW, by simp [hz]⟩
        · skip
          have e8 : V 8 = .bool false := hv.get 8 (by simp [hp])
          have HV := Lib.hid (hv.fix e8 rfl)
          clear hv hp
          simp only [e8]
          refine wpOp_sk rfl rfl (fun K hK => ?_)
          refine hK _ _ ?_
          exact ⟨_, HV.out.new (x := undef) rfl, rfl, HW, by simp [hz]⟩
        · skip
          have e8 : V 8 = .bool false := hv.get 8 (by simp [hp])
          have HV := Lib.hid (hv.fix e8 rfl)
          clear hv hp
          simp only [e8]
          refine wpOp_go rfl rfl (fun K hK => ?_)
          go_simp
          refine hK _ _ ?_
          exact ⟨_, HV.out.new (x := .bool false) rfl, rfl, HW, by simp [hz]⟩
        · skip
          have e0 : V 0 = .int .i64 v := hv.get 0 (by simp [hp])
          have HV := Lib.hid (hv.fix e0 rfl)
          clear hv hp
          simp only [e0]
          refine wpOp_go rfl rfl (fun K hK => ?_)
          go_simp
          refine hK _ _ ?_
          exact ⟨_, HV.out.new (x := .int .i64 v) rfl, rfl, HW, by simp [hz]⟩
        · skip
          have e13 : V 13 = .bool false := hv.get 13 (by simp [hp])
          have HV := Lib.hid (hv.fix e13 rfl)
          clear hv hp
          simp only [e13]
          refine wpOp_go rfl rfl (fun K hK => ?_)
          go_simp
          refine hK _ _ ?_
          exact ⟨_, HV.out.new (x := .bool false) rfl, rfl, HW, by simp [hz]⟩
      · intro l a' W' hr hI
        obtain ⟨V, hv, rfl, HW, hz⟩ := hI
        have a0 := not_ready (i := 0) hr hz rfl (by simp [Region.binds])
        have a1 := not_ready (i := 1) hr hz rfl (by simp [Region.binds, a0])
        have a2 := not_ready (i := 2) hr hz rfl (by simp [Region.binds, a0, a1])
        have a3 := not_ready (i := 3) hr hz rfl (by simp [Region.binds, a0, a1, a2])
        have a4 := not_ready (i := 4) hr hz rfl (by simp [Region.binds, a0, a1, a2, a3])
        have a5 := not_ready (i := 5) hr hz rfl (by simp [Region.binds, a0, a1, a2, a3, a4])
        have a6 := not_ready (i := 6) hr hz rfl (by simp [Region.binds, a0, a1, a2, a3, a4, a5])
        have a7 := not_ready (i := 7) hr hz rfl (by simp [Region.binds, a0, a1, a2, a3, a4, a5, a6])
        have a8 := not_ready (i := 8) hr hz rfl (by simp [Region.binds, a0, a1, a2, a3, a4, a5, a6, a7])
        have a9 := not_ready (i := 9) hr hz rfl (by simp [Region.binds, a0, a1, a2, a3, a4, a5, a6, a7, a8])
        have a10 := not_ready (i := 10) hr hz rfl (by simp [Region.binds, a0, a1, a2, a3, a4, a5, a6, a7, a8, a9])
        have a11 := not_ready (i := 11) hr hz rfl (by simp [Region.binds, a0, a1, a2, a3, a4, a5, a6, a7, a8, a9, a10])
        have a12 := not_ready (i := 12) hr hz rfl (by simp [Region.binds, a0, a1, a2, a3, a4, a5, a6, a7, a8, a9, a10, a11])
        have a13 := not_ready (i := 13) hr hz rfl (by simp [Region.binds, a0, a1, a2, a3, a4, a5, a6, a7, a8, a9, a10, a11, a12])
        have a14 := not_ready (i := 14) hr hz rfl (by simp [Region.binds, a0, a1, a2, a3, a4, a5, a6, a7, a8, a9, a10, a11, a12, a13])
        have a15 := not_ready (i := 15) hr hz rfl (by simp [Region.binds, a0, a1, a2, a3, a4, a5, a6, a7, a8, a9, a10, a11, a12, a13, a14])
        clear hr
        have e14 : V 14 = .int .i64 v := hv.get 14 a14
        have e15 : V 15 = .bool false := hv.get 15 a15
        simp only [e14, e15]
        clear hv a0 a1 a2 a3 a4 a5 a6 a7 a8 a9 a10 a11 a12 a13 a14 a15
        go_wp2_with fail
        exact bodyPost_ret (v := .tuple #[.int .i64 v, .bool false]) (by simp [results, Try.results25, go_sem]) rfl ⟨rfl, HW.2⟩
      · exact ⟨fun j => List.getD [undef, undef, undef, undef, undef, undef, undef, undef, undef, undef, undef, undef, undef, undef, .int .i64 0, .bool false] j undef, OnAll.start, rfl, ⟨mn, ⟨hb1.os, hb1.tape, hb1.output, hb1.size, hb1.block⟩⟩, by simp⟩
end Go.Proofs.Ytdpjknjlhchmcaa

namespace Go.Proofs.Ytdpjknjlhchmcaa
open Go.RowKit Pl
set_option linter.unusedVariables false
set_option linter.unusedSimpArgs false
/-- Five cells. -/
def C5 (w : World) (g : Nat) (v0 v1 v2 v3 v4 : Value) : Prop := w.cell? ⟨g, 0, none⟩ = some v0 ∧ w.cell? ⟨g, 1, none⟩ = some v1 ∧ w.cell? ⟨g, 2, none⟩ = some v2 ∧ w.cell? ⟨g, 3, none⟩ = some v3 ∧ w.cell? ⟨g, 4, none⟩ = some v4
theorem C5.to {w w' : World} {g : Nat} {v0 v1 v2 v3 v4 : Value} (h : C5 w g v0 v1 v2 v3 v4) (hb : Below w.heap.size w w') (l : g < w.heap.size) : C5 w' g v0 v1 v2 v3 v4 :=
  ⟨keepc hb h.1 l, keepc hb h.2.1 l, keepc hb h.2.2.1 l, keepc hb h.2.2.2.1 l, keepc hb h.2.2.2.2 l⟩
-- a list grows
theorem own_cell {w : World} {B g n c size : Nat} {T : TypeId} {xs : List Value} (h : w.ownsRow B T size (.slice (some ⟨g, 0, none⟩) n c) n xs) {j : Nat} (hj : j < n * size) : w.cell? ⟨g, j, none⟩ = xs[j]? := by
  rcases h.2 with ⟨e, _⟩ | ⟨g', cap, cur, e, _, hg, hnc, _, hs, ht⟩
  · cases e
  · injection e with e1 e2 e3
    injection e1 with e1; injection e1 with e1; subst e1
    have e4 : (cur.toList.take (n * size))[j]? = xs[j]? := by rw [ht]
    rw [List.getElem?_take_of_lt hj] at e4
    rw [← e4]
    simp [World.cell?, hg]
theorem grow_nat {w w' : World} {g n : Nat} {A : Option Addr} {c : Bool} (hg : w.grownBy w' (some g)) (u : w.cell? ⟨g, 0, none⟩ = some (.bool c)) (h : Nat32 w A n) : Nat32 w' A n := by
  intro hn
  obtain ⟨b, e, hl, hc⟩ := h hn
  refine ⟨b, e, Nat.lt_of_lt_of_le hl hg.size, fun j hj => ?_⟩
  refine hg.cell (hc j hj) ?_
  intro e2
  injection e2 with e2
  subst e2
  have h0 := hc 0 (by omega)
  rw [u] at h0
  cases h0
theorem grow_num {w w' : World} {g : Nat} {q : Cx} {A1 A2 A3 : Option Addr} {c : Bool} (hg : w.grownBy w' (some g)) (u : w.cell? ⟨g, 0, none⟩ = some (.bool c)) (h : Num3 w A1 A2 A3 q) : Num3 w' A1 A2 A3 q := ⟨grow_nat hg u h.1, grow_nat hg u h.2.1, grow_nat hg u h.2.2⟩
theorem grow_numC {w w' : World} {g : Nat} {q : Cx} {A1 A2 A3 : Option Addr} {c : Bool} (hg : w.grownBy w' (some g)) (u : w.cell? ⟨g, 0, none⟩ = some (.bool c)) (h : Num3C w A1 A2 A3 q) : Num3C w' A1 A2 A3 q := ⟨grow_nat hg u h.1, grow_nat hg u h.2.1, grow_nat hg u h.2.2⟩
theorem PE.grow {w w' : World} {g b o : Nat} {q : Cx} {c : Bool} (h : PE w b o q) (hg : w.grownBy w' (some g)) (u : w.cell? ⟨g, 0, none⟩ = some (.bool c)) (hn : b ≠ g) : PE w' b o q := by
  obtain ⟨A1, A2, A3, ⟨c0, c1, c2, c3, c4⟩, n⟩ := h
  have hne : some b ≠ some g := fun e => hn (by injection e)
  exact ⟨A1, A2, A3, ⟨hg.cell c0 hne, hg.cell c1 hne, hg.cell c2 hne, hg.cell c3 hne, hg.cell c4 hne⟩, grow_num hg u n⟩
theorem QE.grow {w w' : World} {g b o : Nat} {q : Cx} {c : Bool} (h : QE w b o q) (hg : w.grownBy w' (some g)) (u : w.cell? ⟨g, 0, none⟩ = some (.bool c)) (hn : b ≠ g) : QE w' b o q := by
  obtain ⟨A1, A2, A3, k1, k2, k3, ⟨c0, c1, c2, c3, c4⟩, n⟩ := h
  have hne : some b ≠ some g := fun e => hn (by injection e)
  exact ⟨A1, A2, A3, k1, k2, k3, ⟨hg.cell c0 hne, hg.cell c1 hne, hg.cell c2 hne, hg.cell c3 hne, hg.cell c4 hne⟩, grow_numC hg u n⟩
end Go.Proofs.Ytdpjknjlhchmcaa

namespace Go.Proofs.Ytdpjknjlhchmcaa
open Go.RowKit Pl
set_option linter.unusedVariables false
set_option linter.unusedSimpArgs false
theorem push_row {t T : TypeId} {i : TypeInfo} {z : Value} {bytes : Nat} (ht : Try.prog.underlying t = some (.slice T)) (hi : Try.prog.info? T = some i) (hz : i.zero = some z) (hs : i.size = 5) (hb : i.bytes = bytes) (hbs : bytes ≤ 1000) (hzs : z.cells.size = 5)
    {w : World} {B n b : Nat} {v1 : Value} {xs : List Value} (ho : w.ownsRow B T 5 v1 n xs) (hB : B ≤ w.heap.size) (hn : n ≤ 1000) {u0 u1 u2 u3 u4 : Value} (hu : C5 w b u0 u1 u2 u3 u4) (hone : u0.oneCell' = true ∧ u1.oneCell' = true ∧ u2.oneCell' = true ∧ u3.oneCell' = true ∧ u4.oneCell' = true) :
    ∃ g2 c2 w', (Builtin.append_ #[t, t] t #[v1, .slice (some ⟨b, 0, none⟩) 1 1]).run Try.prog w = .ok (.slice (some ⟨g2, 0, none⟩) (n + 1) c2) w' ∧ w'.ownsRow B T 5 (.slice (some ⟨g2, 0, none⟩) (n + 1) c2) (n + 1) (xs ++ [u0, u1, u2, u3, u4]) ∧ w.grownBy w' v1.ownBlock ∧ (v1.ownBlock = some g2 ∨ g2 = w.heap.size) := by
  obtain ⟨c0, c1, c2, c3, c4⟩ := hu
  have hnews : ∀ j u, [u0, u1, u2, u3, u4][j]? = some u → w.cell? ((⟨b, 0, none⟩ : Addr).add j) = some u := by
    intro j u hj
    rw [add_none j rfl, Nat.zero_add]
    match j, hj with
    | 0, hj => simp at hj; rw [← hj]; exact c0
    | 1, hj => simp at hj; rw [← hj]; exact c1
    | 2, hj => simp at hj; rw [← hj]; exact c2
    | 3, hj => simp at hj; rw [← hj]; exact c3
    | 4, hj => simp at hj; rw [← hj]; exact c4
    | j + 5, hj => simp at hj
  have h1 : ∀ u ∈ [u0, u1, u2, u3, u4], u.oneCell' = true := by
    obtain ⟨k0, k1, k2, k3, k4⟩ := hone
    intro u hu
    simp only [List.mem_cons, List.not_mem_nil, or_false] at hu
    rcases hu with rfl | rfl | rfl | rfl | rfl <;> assumption
  obtain ⟨v', w', hr, ho', hg, hv, hob⟩ := run_append_own_at (P := Try.prog) w B t t T i z 5 bytes ht hi hz hs hb hzs (by omega) v1 n xs ho ⟨b, 0, none⟩ 1 1 [u0, u1, u2, u3, u4] rfl hnews h1 (by unfold maxLen; omega) (by have : (n + 1) * bytes ≤ 1001 * 1000 := Nat.mul_le_mul (by omega) hbs; omega) hB
  rcases ho'.2 with ⟨_, h0⟩ | ⟨g2, cap, cur, rfl, hbg, _⟩
  · omega
  · refine ⟨g2, cap, w', hr, ho', hg, ?_⟩
    rcases hob with e | e
    · left; exact e.symm
    · right; exact Option.some.inj (show some g2 = some w.heap.size from e)
theorem own_setO {w : World} {B size g n c p o : Nat} {T : TypeId} {xs : List Value} {v : Value} (h : w.ownsRow B T size (.slice (some ⟨g, 0, none⟩) n c) n xs) (hn : g ≠ p) : (w.setCell ⟨p, o, none⟩ v).ownsRow B T size (.slice (some ⟨g, 0, none⟩) n c) n xs := by
  refine h.kept (row := some p) ⟨rfl, rfl, rfl, by simp [World.setCell], fun k hk hne => ?_⟩ (.inr (fun e => hn (Option.some.inj (show some g = some p from e))))
  have : k ≠ p := fun e => hne (by rw [e])
  simp [World.setCell, Array.getElem?_modify, Ne.symm this]
/-- Row i of a matrix under construction: the value of its cell. -/
def RowP (w0 w : World) (gO : Nat) (L : Nat) (f : Nat → Cx) (v : Value) (g : Nat) : Prop :=
  (L = 0 ∧ v = .slice none 0 0) ∨ (∃ c xs, 0 < L ∧ v = .slice (some ⟨g, 0, none⟩) L c ∧ g ≠ gO ∧ w.ownsRow w0.heap.size 34 5 v L xs ∧ ∀ j, j < L → PE w g (j * 5) (f j))
/-- A matrix under construction: row i has L i numbers. -/
def BldP (w0 : World) (gO n : Nat) (L : Nat → Nat) (f : Nat → Nat → Cx) (w : World) : Prop :=
  w0.heap.size ≤ gO ∧ gO < w.heap.size ∧ (∃ F, w.rowIs gO 42 n F) ∧
  (∃ (V : Nat → Value) (G : Nat → Nat), (∀ i, i < n → w.cell? ⟨gO, i, none⟩ = some (V i) ∧ RowP w0 w gO (L i) (f i) (V i) (G i)) ∧ ∀ i k, i < n → k < n → 0 < L i → 0 < L k → G i = G k → i = k) ∧ Below w0.heap.size w0 w
theorem RowP.to {w0 w w' : World} {gO L g : Nat} {f : Nat → Cx} {v : Value} (h : RowP w0 w gO L f v g) (hb : Below w.heap.size w w') : RowP w0 w' gO L f v g := by
  rcases h with h | ⟨c, xs, h1, h2, h3, h4, h5⟩
  · exact .inl h
  · exact .inr ⟨c, xs, h1, h2, h3, h4.kept (row := none) ⟨hb.os, hb.tape, hb.output, hb.size, fun k hk _ => hb.block k hk⟩ (by cases v.ownBlock <;> simp), fun j hj => (h5 j hj).to hb⟩
theorem BldP.to {w0 w w' : World} {gO n : Nat} {L : Nat → Nat} {f : Nat → Nat → Cx} (h : BldP w0 gO n L f w) (hb : Below w.heap.size w w') : BldP w0 gO n L f w' := by
  obtain ⟨h1, h2, ⟨F, h3⟩, ⟨V, G, h4, h5⟩, h6⟩ := h
  exact ⟨h1, Nat.lt_of_lt_of_le h2 hb.size, ⟨F, h3.of_block (hb.block gO h2)⟩, ⟨V, G, fun i hi => ⟨keepc hb (h4 i hi).1 h2, (h4 i hi).2.to hb⟩, h5⟩, h6.trans (hb.mono h6.size)⟩
theorem RowP.lt {w0 w : World} {gO L g : Nat} {f : Nat → Cx} {v : Value} (h : RowP w0 w gO L f v g) (hL : 0 < L) : g < w.heap.size := by
  rcases h with h | ⟨c, xs, h1, h2, h3, h4, h5⟩
  · omega
  · exact (h5 0 h1).lt
/-- A fresh matrix. -/
theorem BldP.new {w : World} {n : Nat} {f : Nat → Nat → Cx} : BldP w w.heap.size n (fun _ => 0) f (mkS w n 42) := by
  have h := mkS_row w n 42
  exact ⟨Nat.le_refl _, by rw [mkS_size]; omega, ⟨_, h⟩, ⟨fun _ => .slice none 0 0, fun _ => 0, fun i hi => ⟨h.cell hi, .inl ⟨rfl, rfl⟩⟩, fun i k _ _ h => absurd h (Nat.lt_irrefl 0)⟩, mkS_below _ _ _⟩
theorem BldP.fin {w0 w : World} {gO n : Nat} {L : Nat → Nat} {f : Nat → Nat → Cx} (h : BldP w0 gO n L f w) : MatP w (some ⟨gO, 0, none⟩) n L f ∧ Below w0.heap.size w0 w := by
  obtain ⟨h1, h2, _, ⟨V, G, h4, _⟩, h6⟩ := h
  have each : ∀ i, ∃ z : Option Addr × Nat, i < n → (w.cell? ⟨gO, i, none⟩ = some (.slice z.1 (L i) z.2) ∧ ∀ j, j < L i → ∃ g, z.1 = some ⟨g, 0, none⟩ ∧ PE w g (j * 5) (f i j)) := by
    intro i
    by_cases hi : i < n
    · obtain ⟨hc, hr⟩ := h4 i hi
      rcases hr with ⟨e, e2⟩ | ⟨c, xs, k1, k2, k3, k4, k5⟩
      · exact ⟨(none, 0), fun _ => ⟨by rw [hc, e2, e], fun j hj => absurd hj (by omega)⟩⟩
      · exact ⟨(some ⟨G i, 0, none⟩, c), fun _ => ⟨by rw [hc, k2], fun j hj => ⟨G i, rfl, k5 j hj⟩⟩⟩
    · exact ⟨(none, 0), fun h => absurd h hi⟩
  obtain ⟨z, hz⟩ := Classical.skolem.1 each
  exact ⟨⟨fun i => (z i).1, fun i => (z i).2, fun i hi => ⟨gO, 0, rfl, h2, by rw [Nat.zero_add]; exact (hz i hi).1⟩, fun i hi j hj => (hz i hi).2 j hj⟩, h6⟩
/-- The lengths behind an append to row k. -/
def more (L : Nat → Nat) (k : Nat) : Nat → Nat := fun i => if i = k then L k + 1 else L i
theorem BldP.push {w0 W : World} {gO n k : Nat} {L : Nat → Nat} {f : Nat → Nat → Cx} (h : BldP w0 gO n L f W) (hk : k < n) (hl : L k ≤ 1000) :
    ∃ v1, W.cell? ⟨gO, k, none⟩ = some v1 ∧ gO < W.heap.size ∧ ∀ (w : World) (b : Nat), Below W.heap.size W w → W.heap.size ≤ b → PE w b 0 (f k (L k)) →
      ∃ v' w', (Builtin.append_ #[42, 42] 42 #[v1, .slice (some ⟨b, 0, none⟩) 1 1]).run Try.prog w = .ok v' w' ∧ (∃ v0, w'.cell? ⟨gO, k, none⟩ = some v0) ∧ w'.frozen? ⟨gO, k, none⟩ = false ∧ (∃ (S : Option Addr) (a b : Nat), v' = .slice S a b) ∧ BldP w0 gO n (more L k) f (w'.setCell ⟨gO, k, none⟩ v') := by
  have hW := h
  obtain ⟨_, a2, _, ⟨V0, G0, a4, _⟩, _⟩ := hW
  refine ⟨V0 k, (a4 k hk).1, a2, fun w b hb hbz hpe => ?_⟩
  have hV0 := (a4 k hk).1
  have hlt0 : ∀ i, i < n → 0 < L i → ∃ V G, W.cell? ⟨gO, i, none⟩ = some V ∧ RowP w0 W gO (L i) (f i) V G ∧ G < W.heap.size := fun i hi h0 => ⟨_, _, (a4 i hi).1, (a4 i hi).2, (a4 i hi).2.lt h0⟩
  obtain ⟨h1, h2, ⟨F, h3⟩, ⟨V, G, h4, h5⟩, h6⟩ := h
  have hsz : W.heap.size ≤ w.heap.size := hb.size
  have hG : ∀ i, i < n → 0 < L i → G i < W.heap.size := fun i hi h0 => (h4 i hi).2.lt h0
  have eV : V0 k = V k := by have := (h4 k hk).1; rw [hV0] at this; exact Option.some.inj this
  rw [eV]
  -- at w
  have r3 := h3.of_block (hb.block gO h2)
  have r4 : ∀ i, i < n → w.cell? ⟨gO, i, none⟩ = some (V i) ∧ RowP w0 w gO (L i) (f i) (V i) (G i) := fun i hi => ⟨keepc hb (h4 i hi).1 h2, (h4 i hi).2.to hb⟩
  have r6 : Below w0.heap.size w0 w := h6.trans (hb.mono h6.size)
  obtain ⟨ti, ki, kz, ks, kb⟩ := info_parts Try.info_num
  obtain ⟨A1, A2, A3, cs, nn⟩ := hpe
  have hown : ∃ xs, w.ownsRow w0.heap.size 34 5 (V k) (L k) xs := by
    rcases (r4 k hk).2 with ⟨e1, e2⟩ | ⟨c, xs, _, _, _, k4, _⟩
    · exact ⟨[], by simp [e1], .inl ⟨e2, e1⟩⟩
    · exact ⟨xs, k4⟩
  obtain ⟨xs, hown⟩ := hown
  obtain ⟨g2, c2, w', er, o2, hg, hob⟩ := push_row (b := b) Try.und_nums ki kz ks kb (by omega) rfl hown r6.size hl cs ⟨rfl, rfl, rfl, rfl, rfl⟩
  -- what the row's old block is
  have hrow : (L k = 0 ∧ (V k).ownBlock = none) ∨ (0 < L k ∧ (V k).ownBlock = some (G k) ∧ G k ≠ gO ∧ ∃ c, w.cell? ⟨G k, 0, none⟩ = some (.bool c)) := by
    rcases (r4 k hk).2 with ⟨e1, e2⟩ | ⟨c, ys, k1, k2, k3, k4, k5⟩
    · exact .inl ⟨e1, by rw [e2]; rfl⟩
    · obtain ⟨_, _, _, ⟨c0, _⟩, _⟩ := k5 0 k1
      rw [Nat.zero_mul] at c0
      exact .inr ⟨k1, by rw [k2]; rfl, k3, _, c0⟩
  have natk : ∀ {A : Option Addr} {m : Nat}, Nat32 w A m → Nat32 w' A m := by
    intro A m hm
    rcases hrow with ⟨_, e⟩ | ⟨_, e, _, c, hc⟩
    · rw [e] at hg
      intro h0
      obtain ⟨p, e1, e2, e3⟩ := hm h0
      exact ⟨p, e1, Nat.lt_of_lt_of_le e2 hg.size, fun j hj => hg.cell (e3 j hj) (by simp)⟩
    · rw [e] at hg
      exact grow_nat hg hc hm
  have numk : ∀ {A B C : Option Addr} {q : Cx}, Num3 w A B C q → Num3 w' A B C q := fun h => ⟨natk h.1, natk h.2.1, natk h.2.2⟩
  have far : ∀ p, p < w.heap.size → (0 < L k → p ≠ G k) → some p ≠ (V k).ownBlock := by
    intro p _ hne
    rcases hrow with ⟨_, e⟩ | ⟨e0, e, _⟩
    · rw [e]; simp
    · rw [e]; intro e2; exact hne e0 (Option.some.inj e2)
  have hgO : some gO ≠ (V k).ownBlock := far gO (by omega) (fun h0 => by
    rcases hrow with ⟨e, _⟩ | ⟨_, _, e, _⟩
    · omega
    · exact Ne.symm e)
  have g2ne : g2 ≠ gO := by
    rcases hob with e | e
    · rcases hrow with ⟨_, e2⟩ | ⟨_, e2, e3, _⟩
      · rw [e2] at e; cases e
      · rw [e2] at e; rw [← Option.some.inj e]; exact e3
    · omega
  have cellk : ∀ i, i < n → w'.cell? ⟨gO, i, none⟩ = some (V i) := fun i hi => hg.cell (r4 i hi).1 hgO
  have fzk : w'.frozen? ⟨gO, k, none⟩ = false := (World.frozen?_of_block (a := ⟨gO, k, none⟩) (hg.block gO (by omega) hgO)).trans (r3.frozen k)
  have r3' : w'.rowIs gO 42 n F := r3.of_block (hg.block gO (by omega) hgO)
  have hs0 : ∃ (S : Option Addr) (a b : Nat), w'.cell? ⟨gO, 0, none⟩ = some (.slice S a b) := by
    have := cellk 0 (by omega)
    rcases (r4 0 (by omega)).2 with ⟨_, e2⟩ | ⟨c, _, _, k2, _⟩
    · exact ⟨_, _, _, by rw [this, e2]⟩
    · exact ⟨_, _, _, by rw [this, k2]⟩
  obtain ⟨S, sa, sb, hS⟩ := hs0
  have newrow : ∀ j, j < L k + 1 → PE w' g2 (j * 5) (f k j) := by
    intro j hj
    by_cases e : j = L k
    · subst e
      have hxl := hown.1
      have hnew : ∀ m, m < 5 → w'.cell? ⟨g2, L k * 5 + m, none⟩ = ([.bool (sn (na (f k (L k)))), .slice A1 (ln (ab (na (f k (L k))))) (ln (ab (na (f k (L k))))), .bool (sn (nb (f k (L k)))), .slice A2 (ln (ab (nb (f k (L k))))) (ln (ab (nb (f k (L k))))), .slice A3 (ln (un (f k (L k)))) (ln (un (f k (L k))))] : List Value)[m]? := by
        intro m hm
        rw [own_cell o2 (by omega), List.getElem?_append_right (by omega), hxl, Nat.add_sub_cancel_left]
      exact ⟨A1, A2, A3, ⟨hnew 0 (by omega), hnew 1 (by omega), hnew 2 (by omega), hnew 3 (by omega), hnew 4 (by omega)⟩, numk nn⟩
    · rcases (r4 k hk).2 with ⟨e1, _⟩ | ⟨c, ys, k1, k2, k3, k4, k5⟩
      · omega
      · obtain ⟨B1, B2, B3, ⟨d0, d1, d2, d3, d4⟩, m3⟩ := k5 j (by omega)
        have hxl := hown.1
        rw [k2] at hown
        have old : ∀ m, m < L k * 5 → w'.cell? ⟨g2, m, none⟩ = w.cell? ⟨G k, m, none⟩ := by
          intro m hm
          rw [own_cell o2 (by omega), List.getElem?_append_left (by omega), own_cell hown hm]
        exact ⟨B1, B2, B3, ⟨(old _ (by omega)).trans d0, (old _ (by omega)).trans d1, (old _ (by omega)).trans d2, (old _ (by omega)).trans d3, (old _ (by omega)).trans d4⟩, numk m3⟩
  have u0 := r3'.cell hk
  refine ⟨.slice (some ⟨g2, 0, none⟩) (L k + 1) c2, w', er, ⟨_, cellk k hk⟩, fzk, ⟨_, _, _, rfl⟩, h1, ?_, ⟨_, r3'.set _ _⟩, ⟨fun i => if i = k then .slice (some ⟨g2, 0, none⟩) (L k + 1) c2 else V i, fun i => if i = k then g2 else G i, fun i hi => ?_, fun i m hi hm hli hlm he => ?_⟩, ?_⟩
  · have := hg.size
    simp [World.setCell]
    omega
  · by_cases e : i = k
    · subst e
      simp only [if_pos]
      refine ⟨cell_self (cellk i hi), ?_⟩
      have hm : more L i i = L i + 1 := by simp [more]
      rw [hm]
      exact .inr ⟨c2, _, Nat.succ_pos _, rfl, g2ne, own_setO o2 g2ne, fun j hj => (newrow j hj).setS g2ne hS⟩
    · simp only [if_neg e]
      refine ⟨keepo (cellk i hi) (.inr (by omega)), ?_⟩
      have hm : more L k i = L i := by simp [more, e]
      rw [hm]
      rcases (r4 i hi).2 with hnil | ⟨c, ys, k1, k2, k3, k4, k5⟩
      · exact .inl hnil
      · have hne : some (G i) ≠ (V k).ownBlock := far (G i) (Nat.lt_of_lt_of_le (hG i hi k1) hsz) (fun h0 e2 => e (h5 i k hi hk k1 h0 e2))
        have hob2 : (V i).ownBlock = some (G i) := by rw [k2]; rfl
        refine .inr ⟨c, ys, k1, k2, k3, ?_, fun j hj => ?_⟩
        · have := k4.kept hg (by rw [hob2]; exact .inr hne)
          rw [k2] at this ⊢
          exact own_setO this k3
        · obtain ⟨B1, B2, B3, ⟨d0, d1, d2, d3, d4⟩, m3⟩ := k5 j hj
          have hpe2 : PE w' (G i) (j * 5) (f i j) := ⟨B1, B2, B3, ⟨hg.cell d0 hne, hg.cell d1 hne, hg.cell d2 hne, hg.cell d3 hne, hg.cell d4 hne⟩, numk m3⟩
          exact hpe2.setS k3 hS
  · by_cases ei : i = k <;> by_cases em : m = k
    · omega
    · subst ei
      simp only [if_pos, if_neg em] at he
      simp only [more, if_neg em] at hlm
      exfalso
      rcases hob with e | e
      · rcases hrow with ⟨_, e2⟩ | ⟨e0, e2, _⟩
        · rw [e2] at e; cases e
        · rw [e2] at e; exact em (h5 i m hi hm e0 hlm (by rw [Option.some.inj e]; exact he)).symm
      · have := hG m hm hlm; omega
    · subst em
      simp only [if_pos, if_neg ei] at he
      simp only [more, if_neg ei] at hli
      exfalso
      rcases hob with e | e
      · rcases hrow with ⟨_, e2⟩ | ⟨e0, e2, _⟩
        · rw [e2] at e; cases e
        · rw [e2] at e; exact ei (h5 i m hi hm hli e0 (by rw [Option.some.inj e]; exact he))
      · have := hG i hi hli; omega
    · simp only [if_neg ei, if_neg em] at he
      simp only [more, if_neg ei] at hli
      simp only [more, if_neg em] at hlm
      exact h5 i m hi hm hli hlm he
  · refine Below.setCell ?_ h1 _
    refine r6.grown hg r6.size (fun p hp => ?_)
    rcases hrow with ⟨_, e⟩ | ⟨e0, e, _⟩
    · rw [e] at hp; cases hp
    · rcases (r4 k hk).2 with ⟨e1, _⟩ | ⟨c, ys, k1, k2, k3, k4, k5⟩
      · omega
      · rw [e] at hp
        have := Option.some.inj hp
        subst this
        rw [k2] at k4
        rcases k4.2 with ⟨e3, _⟩ | ⟨g', cap, cur, e3, hbg, _⟩
        · cases e3
        · injection e3 with e3; injection e3 with e3; injection e3 with e3; omega
/-- A new slice of one number. -/
def BoxN (z : Nat) (w : World) (u : Value) (q : Cx) : Prop := ∃ b, u = .slice (some ⟨b, 0, none⟩) 1 1 ∧ PE w b 0 q ∧ z ≤ b
theorem BoxN.to {z : Nat} {w w' : World} {u : Value} {q : Cx} (h : BoxN z w u q) (hb : Below w.heap.size w w') : BoxN z w' u q := by
  obtain ⟨b, e, h1, h2⟩ := h; exact ⟨b, e, h1.to hb, h2⟩
theorem BoxN.new {z : Nat} {w : World} {q : Cx} {A1 A2 A3 : Option Addr} {T : TypeId} (n : Num3 w A1 A2 A3 q) (hz : z ≤ w.heap.size) : BoxN z (w.alloc (.cells #[.bool (sn (na q)), .slice A1 (ln (ab (na q))) (ln (ab (na q))), .bool (sn (nb q)), .slice A2 (ln (ab (nb q))) (ln (ab (nb q))), .slice A3 (ln (un q)) (ln (un q))] T)) (.slice (some ⟨w.heap.size, 0, none⟩) 1 1) q :=
  ⟨_, rfl, ⟨A1, A2, A3, ⟨by go_simp, by go_simp, by go_simp, by go_simp, by go_simp⟩, n.1.alloc _, n.2.1.alloc _, n.2.2.alloc _⟩, hz⟩
/-- Between the append and the store. -/
def MidP (w0 : World) (gO n k : Nat) (L : Nat → Nat) (f : Nat → Nat → Cx) (v' : Value) (w : World) : Prop := (∃ v0, w.cell? ⟨gO, k, none⟩ = some v0) ∧ w.frozen? ⟨gO, k, none⟩ = false ∧ (∃ (S : Option Addr) (a b : Nat), v' = .slice S a b) ∧ BldP w0 gO n (more L k) f (w.setCell ⟨gO, k, none⟩ v')
end Go.Proofs.Ytdpjknjlhchmcaa

namespace Go.Proofs.Ytdpjknjlhchmcaa
open Go.RowKit Pl
set_option linter.unusedVariables false
set_option linter.unusedSimpArgs false
/-- What a call that makes a matrix hands back: the matrix and no error. -/
def RetMatE (w : World) (n : Nat) (N : Nat → Nat) (f : Nat → Nat → Cx) (e : Ending) (w' : World) : Prop := ∃ A c, e = .returned (.tuple #[.slice A n c, .int .i64 0]) ∧ MatP w' A n N f ∧ Below w.heap.size w w'
set_option maxRecDepth 100000 in
set_option maxHeartbeats 40000000 in
theorem adjoint_ok (w : World) (A : Option Addr) (n c : Nat) (N : Nat → Nat) (f : Nat → Nat → Cx) (hM : MatP w A n N f) (hn : n ≤ 1000) (hN : ∀ i, i < n → N i ≤ 1000) (hV : Valid n N) :
    Calls Try.prog 8 #[.slice A n c] w (RetMatE w (colN n N) (fun _ => n) fun i j => (f j i).conj) := by
  obtain ⟨F, hF⟩ : ∃ F : Nat → Nat → Cx, F = fun i j => (f j i).conj := ⟨_, rfl⟩
  rw [← hF]
  have hok : (true : Bool) = true ↔ Valid n N := ⟨fun _ => hV, fun _ => rfl⟩
  have HM := Lib.hid hM
  obtain ⟨R, K, hG, _⟩ := hM
  have HC := columns_any w A n c R N K hG hn hN true hok
  have hrow : ∀ j, j < n → N j = colN n N := by
    intro j hj
    unfold colN
    rw [if_neg (by omega)]
    rcases hV with h | ⟨_, _, h⟩
    · omega
    · exact h j hj
  have hm : colN n N ≤ 1000 := by
    unfold colN
    split
    · omega
    · exact hN 0 (by omega)
  have HR := Lib.hid hrow
  clear hG hN hV hok hrow
  generalize colN n N = m at *
  have hmk := mk_nums2 m (by omega)
  have hm_Conj : ∀ (k : Nat) (v1 v2 v3 v4 v5 : Value) (w : World), (method (k + 1) 34 (.agg #[v1, v2, v3, v4, v5]) "Conj").run Try.prog w = .ok (12, .agg #[v1, v2, v3, v4, v5]) w := fun _ _ _ _ _ _ _ => by kernel_rfl
  go_enter Try.func8, Try.ntmps8
  go_wp2_with fail
  refine HC.mono ?_
  rintro e w1 ⟨rfl, hb1⟩
  go_wp2_with fail
  clear hmk HC
  have hB0 : BldP w1 w1.heap.size m (fun _ => 0) F (mkS w1 m 42) := BldP.new
  have HB1 := Lib.hid hb1
  have HF := Lib.hid hF
  clear hb1 hF
  generalize mkS w1 m 42 = W0 at *
  obtain ⟨gO, hgO⟩ : ∃ g, g = w1.heap.size := ⟨_, rfl⟩
  rw [← hgO] at hB0 ⊢
  clear hgO
  go_loopw [20] (fun i (wr : World) => ∃ k : Nat, k ≤ m ∧ i = .int .i64 k ∧ BldP w1 gO m (fun i => if i < k then n else 0) F wr) (fun i _ => m - (intOf i).toNat)
  case atStart => exact ⟨0, Nat.zero_le _, rfl, by simpa using hB0⟩
  case round =>
    obtain ⟨k, hk, rfl, hB⟩ := hrel
    clear hB0
    by_cases hlt : k < m
    · have hB2 : BldP w1 gO m (fun i => if i < k then n else if i = k then 0 else 0) F wr := by simpa using hB
      clear hB
      go_upto_region 9 with fail
      go_loopw [25] (fun i (wr : World) => ∃ j : Nat, j ≤ n ∧ i = .int .i64 j ∧ BldP w1 gO m (fun i => if i < k then n else if i = k then j else 0) F wr) (fun i _ => n - (intOf i).toNat)
      case atStart => exact ⟨0, Nat.zero_le _, rfl, hB2⟩
      case round =>
        obtain ⟨j, hj, rfl, hB3⟩ := hrel
        clear hB2
        by_cases hlj : j < n
        · obtain ⟨R', K', g1, g2⟩ := (HM.out.to (HB1.out)).to (hB3.fin.2)
          have hNj := HR.out j hlj
          obtain ⟨b, fo, rfl, hl, hc1⟩ := g1 j hlj
          obtain ⟨g, eg, hpe⟩ := g2 j hlj k (by omega)
          rw [eg, hNj] at hc1
          obtain ⟨A1, A2, A3, hcs, hq⟩ := hpe
          have hlg : g < wr.heap.size := World.block_lt_of_cell? wr ⟨g, _, none⟩ hcs.1
          obtain ⟨v1, hv1, hv2, hpush⟩ := hB3.push hlt (by simp; omega)
          obtain ⟨q, hqq⟩ : ∃ q, q = f j k := ⟨_, rfl⟩
          rw [← hqq] at hcs hq
          have hLk : F k ((fun i => if i < k then n else if i = k then j else 0) k) = q.conj := by simp [HF.out, hqq]
          have hmore : more (fun i => if i < k then n else if i = k then j else 0) k = fun i => if i < k then n else if i = k then j + 1 else 0 := by
            funext i; unfold more; by_cases e : i = k
            · subst e; simp
            · simp [e]
          have i1 : (0 : Int) ≤ (k : Int) := by omega
          have i2 : (k : Int) < (m : Int) := by omega
          have i3 : (0 : Int) ≤ (j : Int) := by omega
          have i4 : (j : Int) < (n : Int) := by omega
          clear hB3 g1 g2 hqq eg hNj
          go_upto_region 11 with fail
          refine wp_region_any (by kernel_rfl) ?_
          refine wpAny_inv (fun l a' w' => ∃ V : Nat → Value, ∃ x14 x15 x16 : Value, a' = ⟨#[.slice (some ⟨b, fo, none⟩) n c, undef, .slice none 0 0, .int .i64 0, .int .i64 m, .bool true, .slice (some ⟨gO, 0, none⟩) m m, .int .i64 k, .int .i64 j, .tuple #[.int .i64 m, .bool true], .slice (some ⟨b, fo, none⟩) n c, .tuple #[.int .i64 m, .bool true], .int .i64 m, .bool true, .bool true, .bool false, .int .i64 m, .slice (some ⟨gO, 0, none⟩) m m, .slice (some ⟨gO, 0, none⟩) m m, .int .i64 m, .int .i64 k, .bool true, .int .i64 k, .slice (some ⟨b, fo, none⟩) n c, .int .i64 n, .int .i64 j, .bool true, .int .i64 j, V 0, V 1, V 2, V 3, V 4, V 5, V 6, V 7, V 8, V 9, V 10, V 11, V 12, V 13, x14, x15, x16, V 17, u46, u47, undef], []⟩ ∧ OnFix l V (fun zz => List.getD [.slice (some ⟨gO, 0, none⟩) m m, .int .i64 k, .slice (some ⟨gO, 0, none⟩) m m, .int .i64 k, .pointer (some ⟨gO, k, none⟩), v1, .slice (some ⟨b, fo, none⟩) n c, .int .i64 j, .pointer (some ⟨b, fo + j, none⟩), .slice (some ⟨g, 0, none⟩) m (K' j), .int .i64 k, .pointer (some ⟨g, k * 5, none⟩), .agg #[.bool (sn (na q)), .slice A1 (ln (ab (na q))) (ln (ab (na q))), .bool (sn (nb q)), .slice A2 (ln (ab (nb q))) (ln (ab (nb q))), .slice A3 (ln (un q)) (ln (un q))], .iface 34 (.agg #[.bool (sn (na q)), .slice A1 (ln (ab (na q))) (ln (ab (na q))), .bool (sn (nb q)), .slice A2 (ln (ab (nb q))) (ln (ab (nb q))), .slice A3 (ln (un q)) (ln (un q))]), undef, undef, undef, .pointer (some ⟨gO, k, none⟩), undef] zz undef) [0, 1, 2, 3, 4, 5, 6, 7, 8, 9, 10, 11, 12, 13, 17] ∧ Off l 16 (Below wr.heap.size wr w' ∧ On l 14 (SlotNum w' x14 q.conj) ∧ On l 15 (BoxN wr.heap.size w' x15 q.conj)) ∧ On l 16 (Off l 18 (MidP w1 gO m k (fun i => if i < k then n else if i = k then j else 0) F x16 w')) ∧ On l 18 (BldP w1 gO m (more (fun i => if i < k then n else if i = k then j else 0) k) F w') ∧ Edg l [(16, 5), (16, 15), (15, 14), (14, 13), (13, 12), (12, 11), (11, 9), (18, 16)] ∧ l.size = 19) ?_ ?_ _ _ _ _ (by decide) ?_
          · intro l a' W' i hi hI
            obtain ⟨V, x14, x15, x16, rfl, hv, hZ, hM0, hM1, hE, hz⟩ := hI
            obtain ⟨hlt, hoff, hpre⟩ := ready_pre hi
            have hc : i ∈ [0, 1, 2, 3, 4, 5, 6, 7, 8, 9, 10, 11, 12, 13, 14, 15, 16, 17, 18] := (by decide : ∀ i, i < 19 → i ∈ [0, 1, 2, 3, 4, 5, 6, 7, 8, 9, 10, 11, 12, 13, 14, 15, 16, 17, 18]) i hlt
            simp only [List.mem_cons, List.not_mem_nil, or_false] at hc
            clear hi hlt
            rcases hc with rfl | rfl | rfl | rfl | rfl | rfl | rfl | rfl | rfl | rfl | rfl | rfl | rfl | rfl | rfl | rfl | rfl | rfl | rfl <;> (have hp := hpre _ rfl; simp [Region.binds] at hp; clear hpre)
            · skip
              have HV := Lib.hid hv
              clear hv
              refine wpOp_go rfl rfl (fun K hK => ?_)
              go_simp
              refine hK _ _ ?_
              exact ⟨_, _, _, _, rfl, HV.out.new (x := .slice (some ⟨gO, 0, none⟩) m m) rfl, hZ.keep.map (fun ⟨hb0, y14, y15⟩ => ⟨hb0, y14.keep (by decide), y15.keep (by decide)⟩), (hM0.keep (by decide)).map Off.keep, hM1.keep (by decide), hE.mono (by decide), by simp [hz]⟩
            · skip
              have HV := Lib.hid hv
              clear hv
              refine wpOp_go rfl rfl (fun K hK => ?_)
              go_simp
              refine hK _ _ ?_
              exact ⟨_, _, _, _, rfl, HV.out.new (x := .int .i64 k) rfl, hZ.keep.map (fun ⟨hb0, y14, y15⟩ => ⟨hb0, y14.keep (by decide), y15.keep (by decide)⟩), (hM0.keep (by decide)).map Off.keep, hM1.keep (by decide), hE.mono (by decide), by simp [hz]⟩
            · skip
              have HV := Lib.hid hv
              clear hv
              refine wpOp_go rfl rfl (fun K hK => ?_)
              go_simp
              refine hK _ _ ?_
              exact ⟨_, _, _, _, rfl, HV.out.new (x := .slice (some ⟨gO, 0, none⟩) m m) rfl, hZ.keep.map (fun ⟨hb0, y14, y15⟩ => ⟨hb0, y14.keep (by decide), y15.keep (by decide)⟩), (hM0.keep (by decide)).map Off.keep, hM1.keep (by decide), hE.mono (by decide), by simp [hz]⟩
            · skip
              have HV := Lib.hid hv
              clear hv
              refine wpOp_go rfl rfl (fun K hK => ?_)
              go_simp
              refine hK _ _ ?_
              exact ⟨_, _, _, _, rfl, HV.out.new (x := .int .i64 k) rfl, hZ.keep.map (fun ⟨hb0, y14, y15⟩ => ⟨hb0, y14.keep (by decide), y15.keep (by decide)⟩), (hM0.keep (by decide)).map Off.keep, hM1.keep (by decide), hE.mono (by decide), by simp [hz]⟩
            · skip
              have e2 : V 2 = .slice (some ⟨gO, 0, none⟩) m m := hv.get 2 (by decide) (by simp [hp])
              have e3 : V 3 = .int .i64 k := hv.get 3 (by decide) (by simp [hp])
              have HV := Lib.hid ((hv.fixE e2 rfl).fixE e3 rfl)
              clear hv
              simp only [e2, e3]
              refine wpOp_go rfl rfl (fun K hK => ?_)
              go_simp
              refine hK _ _ ?_
              exact ⟨_, _, _, _, rfl, HV.out.new (x := .pointer (some ⟨gO, k, none⟩)) rfl, hZ.keep.map (fun ⟨hb0, y14, y15⟩ => ⟨hb0, y14.keep (by decide), y15.keep (by decide)⟩), (hM0.keep (by decide)).map Off.keep, hM1.keep (by decide), hE.mono (by decide), by simp [hz]⟩
            · skip
              have e4 : V 4 = .pointer (some ⟨gO, k, none⟩) := hv.get 4 (by decide) (by simp [hp])
              have HV := Lib.hid (hv.fixE e4 rfl)
              clear hv
              simp only [e4]
              have hY := hZ.get (fun h => off hoff (hE.get 16 5 (by decide) h))
              have z := keepc hY.1 hv1 hv2
              refine wpOp_go rfl rfl (fun K hK => ?_)
              go_simp
              refine hK _ _ ?_
              exact ⟨_, _, _, _, rfl, HV.out.new (x := v1) rfl, hZ.keep.map (fun ⟨hb0, y14, y15⟩ => ⟨hb0, y14.keep (by decide), y15.keep (by decide)⟩), (hM0.keep (by decide)).map Off.keep, hM1.keep (by decide), hE.mono (by decide), by simp [hz]⟩
            · skip
              have HV := Lib.hid hv
              clear hv
              refine wpOp_go rfl rfl (fun K hK => ?_)
              go_simp
              refine hK _ _ ?_
              exact ⟨_, _, _, _, rfl, HV.out.new (x := .slice (some ⟨b, fo, none⟩) n c) rfl, hZ.keep.map (fun ⟨hb0, y14, y15⟩ => ⟨hb0, y14.keep (by decide), y15.keep (by decide)⟩), (hM0.keep (by decide)).map Off.keep, hM1.keep (by decide), hE.mono (by decide), by simp [hz]⟩
            · skip
              have HV := Lib.hid hv
              clear hv
              refine wpOp_go rfl rfl (fun K hK => ?_)
              go_simp
              refine hK _ _ ?_
              exact ⟨_, _, _, _, rfl, HV.out.new (x := .int .i64 j) rfl, hZ.keep.map (fun ⟨hb0, y14, y15⟩ => ⟨hb0, y14.keep (by decide), y15.keep (by decide)⟩), (hM0.keep (by decide)).map Off.keep, hM1.keep (by decide), hE.mono (by decide), by simp [hz]⟩
            · skip
              have e6 : V 6 = .slice (some ⟨b, fo, none⟩) n c := hv.get 6 (by decide) (by simp [hp])
              have e7 : V 7 = .int .i64 j := hv.get 7 (by decide) (by simp [hp])
              have HV := Lib.hid ((hv.fixE e6 rfl).fixE e7 rfl)
              clear hv
              simp only [e6, e7]
              refine wpOp_go rfl rfl (fun K hK => ?_)
              go_simp
              refine hK _ _ ?_
              exact ⟨_, _, _, _, rfl, HV.out.new (x := .pointer (some ⟨b, fo + j, none⟩)) rfl, hZ.keep.map (fun ⟨hb0, y14, y15⟩ => ⟨hb0, y14.keep (by decide), y15.keep (by decide)⟩), (hM0.keep (by decide)).map Off.keep, hM1.keep (by decide), hE.mono (by decide), by simp [hz]⟩
            · skip
              have e8 : V 8 = .pointer (some ⟨b, fo + j, none⟩) := hv.get 8 (by decide) (by simp [hp])
              have HV := Lib.hid (hv.fixE e8 rfl)
              clear hv
              simp only [e8]
              have hY := hZ.get (fun h => off hoff (hE.get 11 9 (by decide) (hE.get 12 11 (by decide) (hE.get 13 12 (by decide) (hE.get 14 13 (by decide) (hE.get 15 14 (by decide) (hE.get 16 15 (by decide) h)))))))
              have z := keepc hY.1 hc1 hl
              refine wpOp_go rfl rfl (fun K hK => ?_)
              go_simp
              refine hK _ _ ?_
              exact ⟨_, _, _, _, rfl, HV.out.new (x := .slice (some ⟨g, 0, none⟩) m (K' j)) rfl, hZ.keep.map (fun ⟨hb0, y14, y15⟩ => ⟨hb0, y14.keep (by decide), y15.keep (by decide)⟩), (hM0.keep (by decide)).map Off.keep, hM1.keep (by decide), hE.mono (by decide), by simp [hz]⟩
            · skip
              have HV := Lib.hid hv
              clear hv
              refine wpOp_go rfl rfl (fun K hK => ?_)
              go_simp
              refine hK _ _ ?_
              exact ⟨_, _, _, _, rfl, HV.out.new (x := .int .i64 k) rfl, hZ.keep.map (fun ⟨hb0, y14, y15⟩ => ⟨hb0, y14.keep (by decide), y15.keep (by decide)⟩), (hM0.keep (by decide)).map Off.keep, hM1.keep (by decide), hE.mono (by decide), by simp [hz]⟩
            · skip
              have e9 : V 9 = .slice (some ⟨g, 0, none⟩) m (K' j) := hv.get 9 (by decide) (by simp [hp])
              have e10 : V 10 = .int .i64 k := hv.get 10 (by decide) (by simp [hp])
              have HV := Lib.hid ((hv.fixE e9 rfl).fixE e10 rfl)
              clear hv
              simp only [e9, e10]
              refine wpOp_go rfl rfl (fun K hK => ?_)
              go_simp
              refine hK _ _ ?_
              exact ⟨_, _, _, _, rfl, HV.out.new (x := .pointer (some ⟨g, k * 5, none⟩)) rfl, hZ.keep.map (fun ⟨hb0, y14, y15⟩ => ⟨hb0, y14.keep (by decide), y15.keep (by decide)⟩), (hM0.keep (by decide)).map Off.keep, hM1.keep (by decide), hE.step (by simp [hp]), by simp [hz]⟩
            · skip
              have e11 : V 11 = .pointer (some ⟨g, k * 5, none⟩) := hv.get 11 (by decide) (by simp [hp])
              have HV := Lib.hid (hv.fixE e11 rfl)
              clear hv
              simp only [e11]
              have hY := hZ.get (fun h => off hoff (hE.get 13 12 (by decide) (hE.get 14 13 (by decide) (hE.get 15 14 (by decide) (hE.get 16 15 (by decide) h)))))
              obtain ⟨z0, z1, z2, z3, z4⟩ := hcs
              have y0 := keepc hY.1 z0 hlg; have y1 := keepc hY.1 z1 hlg; have y2 := keepc hY.1 z2 hlg; have y3 := keepc hY.1 z3 hlg; have y4 := keepc hY.1 z4 hlg
              refine wpOp_go rfl rfl (fun K hK => ?_)
              go_simp
              refine hK _ _ ?_
              exact ⟨_, _, _, _, rfl, HV.out.new (x := .agg #[.bool (sn (na q)), .slice A1 (ln (ab (na q))) (ln (ab (na q))), .bool (sn (nb q)), .slice A2 (ln (ab (nb q))) (ln (ab (nb q))), .slice A3 (ln (un q)) (ln (un q))]) rfl, hZ.keep.map (fun ⟨hb0, y14, y15⟩ => ⟨hb0, y14.keep (by decide), y15.keep (by decide)⟩), (hM0.keep (by decide)).map Off.keep, hM1.keep (by decide), hE.step (by simp [hp]), by simp [hz]⟩
            · skip
              have e12 : V 12 = .agg #[.bool (sn (na q)), .slice A1 (ln (ab (na q))) (ln (ab (na q))), .bool (sn (nb q)), .slice A2 (ln (ab (nb q))) (ln (ab (nb q))), .slice A3 (ln (un q)) (ln (un q))] := hv.get 12 (by decide) (by simp [hp])
              have HV := Lib.hid (hv.fixE e12 rfl)
              clear hv
              simp only [e12]
              refine wpOp_go rfl rfl (fun K hK => ?_)
              go_simp
              refine hK _ _ ?_
              exact ⟨_, _, _, _, rfl, HV.out.new (x := .iface 34 (.agg #[.bool (sn (na q)), .slice A1 (ln (ab (na q))) (ln (ab (na q))), .bool (sn (nb q)), .slice A2 (ln (ab (nb q))) (ln (ab (nb q))), .slice A3 (ln (un q)) (ln (un q))])) rfl, hZ.keep.map (fun ⟨hb0, y14, y15⟩ => ⟨hb0, y14.keep (by decide), y15.keep (by decide)⟩), (hM0.keep (by decide)).map Off.keep, hM1.keep (by decide), hE.step (by simp [hp]), by simp [hz]⟩
            · skip
              have e13 : V 13 = .iface 34 (.agg #[.bool (sn (na q)), .slice A1 (ln (ab (na q))) (ln (ab (na q))), .bool (sn (nb q)), .slice A2 (ln (ab (nb q))) (ln (ab (nb q))), .slice A3 (ln (un q)) (ln (un q))]) := hv.get 13 (by decide) (by simp [hp])
              have HV := Lib.hid (hv.fixE e13 rfl)
              clear hv
              simp only [e13]
              have hY := hZ.get (fun h => off hoff (hE.get 15 14 (by decide) (hE.get 16 15 (by decide) h)))
              refine wpOp_go rfl rfl (fun K hK => ?_)
              go_wp2_with (first | (go_at_call 12; refine (conj_any q A1 A2 A3 _ (hq.to hY.1)).mono ?_; rintro e w2 ⟨E1, E2, E3, rfl, hN, hb⟩))
              try refine hK _ _ ?_
              exact ⟨_, _, _, _, rfl, HV.out.other (by decide), Off.new ⟨hY.1.trans (hb.mono hY.1.size), On.new (⟨E1, E2, E3, rfl, hN⟩), ((hY.2.2).keep (by decide)).map (fun h => h.to hb)⟩, fun h => absurd (hE.get 15 14 (by decide) (hE.get 16 15 (by decide) (on_ne h (by decide)))) (off hoff), fun h => absurd (hE.get 15 14 (by decide) (hE.get 16 15 (by decide) (hE.get 18 16 (by decide) (on_ne h (by decide))))) (off hoff), hE.step (by simp [hp]), by simp [hz]⟩
            · skip
              have HV := Lib.hid hv
              clear hv
              have hY := hZ.get (fun h => off hoff (hE.get 16 15 (by decide) h))
              obtain ⟨E1, E2, E3, e0, hN⟩ := hY.2.1.get (by simp [hp])
              subst e0
              refine wpOp_go rfl rfl (fun K hK => ?_)
              go_simp
              refine hK _ _ ?_
              exact ⟨_, _, _, _, rfl, HV.out.other (by decide), Off.new ⟨hY.1.trans ((((Below.refl _ _).alloc (Nat.le_refl _) _)).mono hY.1.size), ((hY.2.1).keep (by decide)).map (fun h => h.to ((Below.refl _ _).alloc (Nat.le_refl _) _)), On.new (BoxN.new hN hY.1.size)⟩, fun h => absurd (hE.get 16 15 (by decide) (on_ne h (by decide))) (off hoff), fun h => absurd (hE.get 16 15 (by decide) (hE.get 18 16 (by decide) (on_ne h (by decide)))) (off hoff), hE.step (by simp [hp]), by simp [hz]⟩
            · skip
              have e5 : V 5 = v1 := hv.get 5 (by decide) (by simp [hp])
              have HV := Lib.hid (hv.fixE e5 rfl)
              clear hv
              simp only [e5]
              have hY := hZ.get (off hoff)
              obtain ⟨bb, e0, hpe, hbb⟩ := hY.2.2.get (by simp [hp])
              subst e0
              obtain ⟨v', w2, er, m1, m2, m3, m4⟩ := hpush W' bb hY.1 hbb (by rw [hLk]; exact hpe)
              refine wpOp_go rfl rfl (fun K hK => ?_)
              refine wp_append_run rfl rfl rfl er ?_
              go_simp
              refine hK _ _ ?_
              exact ⟨_, _, _, _, rfl, HV.out.other (by decide), Off.done (by omega), On.new (Off.new (⟨m1, m2, m3, m4⟩)), fun h => absurd (hE.get 18 16 (by decide) (on_ne h (by decide))) (off hoff), hE.step (by simp [hp]), by simp [hz]⟩
            · skip
              have e0 : V 0 = .slice (some ⟨gO, 0, none⟩) m m := hv.get 0 (by decide) (by simp [hp])
              have e1 : V 1 = .int .i64 k := hv.get 1 (by decide) (by simp [hp])
              have HV := Lib.hid ((hv.fixE e0 rfl).fixE e1 rfl)
              clear hv
              simp only [e0, e1]
              refine wpOp_go rfl rfl (fun K hK => ?_)
              go_simp
              refine hK _ _ ?_
              exact ⟨_, _, _, _, rfl, HV.out.new (x := .pointer (some ⟨gO, k, none⟩)) rfl, hZ.keep.map (fun ⟨hb0, y14, y15⟩ => ⟨hb0, y14.keep (by decide), y15.keep (by decide)⟩), (hM0.keep (by decide)).map Off.keep, hM1.keep (by decide), hE.mono (by decide), by simp [hz]⟩
            · skip
              have e17 : V 17 = .pointer (some ⟨gO, k, none⟩) := hv.get 17 (by decide) (by simp [hp])
              have HV := Lib.hid (hv.fixE e17 rfl)
              clear hv
              simp only [e17]
              have hY := (hM0.get (by simp [hp])).get (off hoff)
              obtain ⟨⟨v0, m1⟩, m2, ⟨S, sa, sb, m3⟩, m4⟩ := hY
              subst m3
              refine wpOp_go rfl rfl (fun K hK => ?_)
              go_simp
              refine hK _ _ ?_
              exact ⟨_, _, _, _, rfl, HV.out.other (by decide), fun h => absurd (on_mono (by simp [hp])) h, (hM0.keep (by decide)).map (fun _ => Off.done (by omega)), On.new (m4), hE.step (by simp [hp]), by simp [hz]⟩
          · intro l a' W' hr hI
            obtain ⟨V, x14, x15, x16, rfl, hv, hZ, hM0, hM1, hE, hz⟩ := hI
            have a0 := not_ready (i := 0) hr hz rfl (by simp [Region.binds])
            have a1 := not_ready (i := 1) hr hz rfl (by simp [Region.binds, a0])
            have a2 := not_ready (i := 2) hr hz rfl (by simp [Region.binds, a0, a1])
            have a3 := not_ready (i := 3) hr hz rfl (by simp [Region.binds, a0, a1, a2])
            have a4 := not_ready (i := 4) hr hz rfl (by simp [Region.binds, a0, a1, a2, a3])
            have a5 := not_ready (i := 5) hr hz rfl (by simp [Region.binds, a0, a1, a2, a3, a4])
            have a6 := not_ready (i := 6) hr hz rfl (by simp [Region.binds, a0, a1, a2, a3, a4, a5])
            have a7 := not_ready (i := 7) hr hz rfl (by simp [Region.binds, a0, a1, a2, a3, a4, a5, a6])
            have a8 := not_ready (i := 8) hr hz rfl (by simp [Region.binds, a0, a1, a2, a3, a4, a5, a6, a7])
            have a9 := not_ready (i := 9) hr hz rfl (by simp [Region.binds, a0, a1, a2, a3, a4, a5, a6, a7, a8])
            have a10 := not_ready (i := 10) hr hz rfl (by simp [Region.binds, a0, a1, a2, a3, a4, a5, a6, a7, a8, a9])
            have a11 := not_ready (i := 11) hr hz rfl (by simp [Region.binds, a0, a1, a2, a3, a4, a5, a6, a7, a8, a9, a10])
            have a12 := not_ready (i := 12) hr hz rfl (by simp [Region.binds, a0, a1, a2, a3, a4, a5, a6, a7, a8, a9, a10, a11])
            have a13 := not_ready (i := 13) hr hz rfl (by simp [Region.binds, a0, a1, a2, a3, a4, a5, a6, a7, a8, a9, a10, a11, a12])
            have a14 := not_ready (i := 14) hr hz rfl (by simp [Region.binds, a0, a1, a2, a3, a4, a5, a6, a7, a8, a9, a10, a11, a12, a13])
            have a15 := not_ready (i := 15) hr hz rfl (by simp [Region.binds, a0, a1, a2, a3, a4, a5, a6, a7, a8, a9, a10, a11, a12, a13, a14])
            have a16 := not_ready (i := 16) hr hz rfl (by simp [Region.binds, a0, a1, a2, a3, a4, a5, a6, a7, a8, a9, a10, a11, a12, a13, a14, a15])
            have a17 := not_ready (i := 17) hr hz rfl (by simp [Region.binds, a0, a1, a2, a3, a4, a5, a6, a7, a8, a9, a10, a11, a12, a13, a14, a15, a16])
            have a18 := not_ready (i := 18) hr hz rfl (by simp [Region.binds, a0, a1, a2, a3, a4, a5, a6, a7, a8, a9, a10, a11, a12, a13, a14, a15, a16, a17])
            have hY := hM1.get a18
            clear hr hz hv hZ a0 a1 a2 a3 a4 a5 a6 a7 a8 a9 a10 a11 a12 a13 a14 a15 a16 a17 a18 hM0 hM1 hE
            go_wp2_with fail
            go_roundw
            case rel => exact ⟨j + 1, by omega, by go_num, by rw [← hmore]; exact hY⟩
            case measure => simp [intOf]; omega
          · exact ⟨fun zz => List.getD [u28, u29, u30, u31, u32, u33, u34, u35, u36, u37, u38, u39, u40, u41, u42, u43, u44, u45, undef] zz undef, _, _, _, rfl, OnFix.start, Off.new ⟨((Below.refl _ _).drew), fun h => absurd h (by decide), fun h => absurd h (by decide)⟩, fun h => absurd h (by decide), fun h => absurd h (by decide), Edg.start, by simp⟩
        · obtain rfl : j = n := by omega
          go_wp2_with fail
          go_roundw
          case rel => exact ⟨k + 1, by omega, by go_num, by
            have e : (fun i => if i < k + 1 then j else 0) = fun i => if i < k then j else if i = k then j else 0 := by
              funext i; by_cases h1 : i < k
              · simp [h1, Nat.lt_succ_of_lt h1]
              · by_cases h2 : i = k
                · subst h2; simp
                · have : ¬ i < k + 1 := by omega
                  simp [h1, h2, this]
            rw [e]; exact hB3⟩
          case measure => simp [intOf]; omega
    · obtain rfl : k = m := by omega
      go_wp2_with fail
      obtain ⟨h1, h2⟩ := hB.fin
      exact bodyPost_ret (v := .tuple #[.slice (some ⟨gO, 0, none⟩) k k, .int .i64 0]) (by simp [results, Try.results8, go_sem]) rfl ⟨_, _, rfl, by
        obtain ⟨R, K, g1, g2⟩ := h1
        exact ⟨R, K, fun i hi => by have := g1 i hi; simpa [hi] using this, fun i hi j hj => g2 i hi j (by simpa [hi] using hj)⟩, HB1.out.trans (h2.mono HB1.out.size)⟩
end Go.Proofs.Ytdpjknjlhchmcaa

namespace Go.Proofs.Ytdpjknjlhchmcaa
open Go.RowKit Pl
set_option linter.unusedVariables false
set_option linter.unusedSimpArgs false
theorem step_len (N : Nat → Nat) (k j : Nat) : more (fun i => if i < k then N i else if i = k then j else 0) k = fun i => if i < k then N i else if i = k then j + 1 else 0 := by
  funext i; unfold more; by_cases e : i = k
  · subst e; simp
  · simp [e]
theorem next_len (N : Nat → Nat) (k : Nat) : (fun i => if i < k + 1 then N i else 0) = fun i => if i < k then N i else if i = k then N k else 0 := by
  funext i; by_cases h1 : i < k
  · simp [h1, Nat.lt_succ_of_lt h1]
  · by_cases h2 : i = k
    · subst h2; simp
    · have : ¬ i < k + 1 := by omega
      simp [h1, h2, this]
theorem BldP.done {w0 w : World} {gO n : Nat} {N : Nat → Nat} {f : Nat → Nat → Cx} (h : BldP w0 gO n (fun i => if i < n then N i else 0) f w) : MatP w (some ⟨gO, 0, none⟩) n N f ∧ Below w0.heap.size w0 w := by
  obtain ⟨⟨R, K, g1, g2⟩, h2⟩ := h.fin
  exact ⟨⟨R, K, fun i hi => by have := g1 i hi; simpa [hi] using this, fun i hi j hj => g2 i hi j (by simpa [hi] using hj)⟩, h2⟩
end Go.Proofs.Ytdpjknjlhchmcaa

namespace Go.Proofs.Ytdpjknjlhchmcaa
open Go.RowKit Pl
set_option linter.unusedVariables false
set_option linter.unusedSimpArgs false
/-- The values of a row of numbers. -/
theorem row_vals {w : World} {g : Nat} {q : Nat → Cx} : ∀ m, (∀ k, k < m → PE w g (k * 5) (q k)) → ∃ xs : List Value, xs.length = m * 5 ∧ (∀ j u, xs[j]? = some u → w.cell? ⟨g, j, none⟩ = some u) ∧ ∀ u ∈ xs, u.oneCell' = true := by
  intro m
  induction m with
  | zero => intro _; exact ⟨[], rfl, fun j u h => by simp at h, fun u h => by simp at h⟩
  | succ m ih =>
    intro h
    obtain ⟨xs, h1, h2, h3⟩ := ih fun k hk => h k (by omega)
    obtain ⟨A1, A2, A3, ⟨c0, c1, c2, c3, c4⟩, _⟩ := h m (by omega)
    refine ⟨xs ++ [.bool (sn (na (q m))), .slice A1 (ln (ab (na (q m)))) (ln (ab (na (q m)))), .bool (sn (nb (q m))), .slice A2 (ln (ab (nb (q m)))) (ln (ab (nb (q m)))), .slice A3 (ln (un (q m))) (ln (un (q m)))], by simp [h1]; omega, fun j u hj => ?_, fun u hu => ?_⟩
    · by_cases e : j < m * 5
      · rw [List.getElem?_append_left (by omega)] at hj
        exact h2 j u hj
      · rw [List.getElem?_append_right (by omega), h1] at hj
        obtain ⟨r, rfl⟩ : ∃ r, j = m * 5 + r := ⟨j - m * 5, by omega⟩
        rw [Nat.add_sub_cancel_left] at hj
        match r, hj with
        | 0, hj => simp at hj; rw [← hj]; exact c0
        | 1, hj => simp at hj; rw [← hj]; exact c1
        | 2, hj => simp at hj; rw [← hj]; exact c2
        | 3, hj => simp at hj; rw [← hj]; exact c3
        | 4, hj => simp at hj; rw [← hj]; exact c4
        | r + 5, hj => simp at hj
    · rcases List.mem_append.1 hu with hu | hu
      · exact h3 u hu
      · simp only [List.mem_cons, List.not_mem_nil, or_false] at hu
        rcases hu with rfl | rfl | rfl | rfl | rfl <;> rfl
/-- A cloned row holds the same numbers. -/
theorem row_clone {w w' : World} {g B g2 c m : Nat} {q : Nat → Cx} {xs : List Value} (h1 : ∀ j u, xs[j]? = some u → w.cell? ⟨g, j, none⟩ = some u) (ho : w'.ownsRow B 34 5 (.slice (some ⟨g2, 0, none⟩) m c) m xs) (hb : Below w.heap.size w w') (hp : ∀ k, k < m → PE w g (k * 5) (q k)) :
    ∀ k, k < m → PE w' g2 (k * 5) (q k) := by
  intro k hk
  have hl := ho.1
  have cp : ∀ j v, j < m * 5 → w.cell? ⟨g, j, none⟩ = some v → w'.cell? ⟨g2, j, none⟩ = some v := by
    intro j v hj hv
    rw [own_cell ho hj]
    have : xs[j]? = some xs[j] := List.getElem?_eq_getElem (by omega)
    rw [this]
    rw [h1 j _ this] at hv
    exact hv
  obtain ⟨A1, A2, A3, ⟨c0, c1, c2, c3, c4⟩, n⟩ := hp k hk
  exact ⟨A1, A2, A3, ⟨cp _ _ (by omega) c0, cp _ _ (by omega) c1, cp _ _ (by omega) c2, cp _ _ (by omega) c3, cp _ _ (by omega) c4⟩, n.to hb⟩
theorem BldP.at {w0 w : World} {gO n : Nat} {L : Nat → Nat} {f : Nat → Nat → Cx} (h : BldP w0 gO n L f w) {i : Nat} (hi : i < n) : (∃ v, w.cell? ⟨gO, i, none⟩ = some v) ∧ w.frozen? ⟨gO, i, none⟩ = false ∧ gO < w.heap.size := by
  obtain ⟨_, h2, ⟨F, h3⟩, _⟩ := h
  exact ⟨⟨_, h3.cell hi⟩, h3.frozen i, h2⟩
/-- A row that was made elsewhere is put in. -/
theorem BldP.rowO {w0 W w : World} {gO n i m g2 c : Nat} {L : Nat → Nat} {f : Nat → Nat → Cx} {xs : List Value} (h : BldP w0 gO n L f W) (hi : i < n) (hL : L i = 0) (hm : 0 < m) (hb : Below W.heap.size W w) (ho : w.ownsRow W.heap.size 34 5 (.slice (some ⟨g2, 0, none⟩) m c) m xs) (hpe : ∀ k, k < m → PE w g2 (k * 5) (f i k)) :
    BldP w0 gO n (fun x => if x = i then m else L x) f (w.setCell ⟨gO, i, none⟩ (.slice (some ⟨g2, 0, none⟩) m c)) := by
  have hg2 : W.heap.size ≤ g2 := (ho.lt _ rfl).1
  have hlt0 : ∀ x, x < n → ∀ V G, RowP w0 W gO (L x) (f x) V G → 0 < L x → G < W.heap.size := fun x hx V G hr h0 => hr.lt h0
  have h' := h.to hb
  obtain ⟨_, a2, _, ⟨V, G, a4, a5⟩, _⟩ := h
  obtain ⟨h1, h2, ⟨F, h3⟩, _, h6⟩ := h'
  have r4 : ∀ x, x < n → w.cell? ⟨gO, x, none⟩ = some (V x) ∧ RowP w0 w gO (L x) (f x) (V x) (G x) := fun x hx => ⟨keepc hb (a4 x hx).1 a2, (a4 x hx).2.to hb⟩
  have hS : ∃ (S : Option Addr) (a b : Nat), w.cell? ⟨gO, 0, none⟩ = some (.slice S a b) := by
    have := (r4 0 (by omega)).1
    rcases (r4 0 (by omega)).2 with ⟨_, e2⟩ | ⟨c, _, _, k2, _⟩
    · exact ⟨_, _, _, by rw [this, e2]⟩
    · exact ⟨_, _, _, by rw [this, k2]⟩
  obtain ⟨S, sa, sb, hS⟩ := hS
  have g2ne : g2 ≠ gO := by omega
  have ho2 : w.ownsRow w0.heap.size 34 5 (.slice (some ⟨g2, 0, none⟩) m c) m xs := by
    refine ⟨ho.1, .inr ?_⟩
    rcases ho.2 with ⟨e, _⟩ | ⟨g, cap, cur, e, k1, k2⟩
    · cases e
    · exact ⟨g, cap, cur, e, by omega, k2⟩
  refine ⟨h1, by simpa [World.setCell] using h2, ⟨_, h3.set _ _⟩, ⟨fun x => if x = i then .slice (some ⟨g2, 0, none⟩) m c else V x, fun x => if x = i then g2 else G x, fun x hx => ?_, fun x y hx hy hlx hly he => ?_⟩, h6.setCell h1 _⟩
  · by_cases e : x = i
    · subst e
      simp only [if_pos]
      exact ⟨cell_self (r4 x hx).1, .inr ⟨c, xs, hm, rfl, g2ne, own_setO ho2 g2ne, fun k hk => (hpe k hk).setS g2ne hS⟩⟩
    · simp only [if_neg e]
      refine ⟨keepo (r4 x hx).1 (.inr (by omega)), ?_⟩
      rcases (r4 x hx).2 with hnil | ⟨c', ys, k1, k2, k3, k4, k5⟩
      · exact .inl hnil
      · refine .inr ⟨c', ys, k1, k2, k3, ?_, fun j hj => (k5 j hj).setS k3 hS⟩
        rw [k2] at k4 ⊢
        exact own_setO k4 k3
  · by_cases ex : x = i <;> by_cases ey : y = i
    · omega
    · simp only [if_pos ex, if_neg ey] at he hly
      have := hlt0 y hy _ _ (a4 y hy).2 hly
      omega
    · simp only [if_neg ex, if_pos ey] at he hlx
      have := hlt0 x hx _ _ (a4 x hx).2 hlx
      omega
    · simp only [if_neg ex, if_neg ey] at he hlx hly
      exact a5 x y hx hy hlx hly he
/-- A matrix with columns behind it. -/
def beside (m : Nat) (f b : Nat → Nat → Cx) : Nat → Nat → Cx := fun i k => if k < m then f i k else b (k - m) i
def RetBld (w : World) (n m : Nat) (f : Nat → Nat → Cx) (e : Ending) (w' : World) : Prop := ∃ gO, e = .returned (.slice (some ⟨gO, 0, none⟩) n n) ∧ BldP w gO n (fun i => if i < n then m else 0) f w'
set_option maxRecDepth 100000 in
set_option maxHeartbeats 40000000 in
theorem copied_any (w : World) (A V : Option Addr) (n c m e ce : Nat) (N : Nat → Nat) (f b : Nat → Nat → Cx) (hM : MatP w A n (fun _ => m) f) (hV : MatP w V e N b) (hn : n ≤ 1000) (hm : m ≤ 100) (he : e ≤ 100) (h0 : 0 < n → 0 < m) (hN : ∀ j, j < e → n ≤ N j ∧ N j ≤ 1000) :
    Calls Try.prog 27 #[.slice A n c, .slice V e ce] w (RetBld w n (m + e) (beside m f b)) := by
  obtain ⟨F, hF⟩ : ∃ F : Nat → Nat → Cx, F = beside m f b := ⟨_, rfl⟩
  rw [← hF]
  have HM := Lib.hid hM; have HV := Lib.hid hV; have HN := Lib.hid hN; have HF := Lib.hid hF
  clear hM hV hN hF
  have hmk := mk_nums2 n (by omega)
  go_enter Try.func27, Try.ntmps27
  go_wp2_with fail
  clear hmk
  have hB0 : BldP w w.heap.size n (fun _ => 0) F (mkS w n 42) := BldP.new
  generalize mkS w n 42 = W0 at *
  obtain ⟨gO, hgO⟩ : ∃ g, g = w.heap.size := ⟨_, rfl⟩
  rw [← hgO] at hB0 ⊢
  clear hgO
  go_loopw [15] (fun i (wr : World) => ∃ k : Nat, k ≤ n ∧ i = .int .i64 k ∧ BldP w gO n (fun i => if i < k then m + e else 0) F wr) (fun i _ => n - (intOf i).toNat)
  case atStart => exact ⟨0, Nat.zero_le _, rfl, by simpa using hB0⟩
  case round =>
    obtain ⟨i, hi, rfl, hB⟩ := hrel
    clear hB0
    by_cases hlt : i < n
    · replace h0 : 0 < m := h0 (by omega)
      obtain ⟨R', K', g1, g2⟩ := HM.out.to hB.fin.2
      obtain ⟨bA, fo, rfl, hl, hc1⟩ := g1 i hlt
      obtain ⟨ga, eg, _⟩ := g2 i hlt 0 h0
      have hpe : ∀ k, k < m → PE wr ga (k * 5) (f i k) := fun k hk => by
        obtain ⟨g', e1, e2⟩ := g2 i hlt k hk
        rw [eg] at e1
        injection e1 with e1; injection e1 with e1
        rw [e1]; exact e2
      rw [eg] at hc1
      clear g1 g2 eg
      obtain ⟨xs, x1, x2, x3⟩ := row_vals m hpe
      have HPE := Lib.hid hpe; have HX2 := Lib.hid x2; have HBB := Lib.hid hB
      have HCL := Lib.hid (clone_any wr ga m (K' i) xs x1 x2 x3 (by omega))
      obtain ⟨⟨v0, b1⟩, b2, b3⟩ := hB.at hlt
      generalize K' i = ka at *
      have i1 : (0 : Int) ≤ (i : Int) := by omega
      have i2 : (i : Int) < (n : Int) := by omega
      clear hpe x1 x2 x3 hB
      go_wp2_with fail
      refine HCL.out.mono ?_
      rintro ee w1 ⟨v, rfl, hown, hnn, hb⟩
      obtain ⟨gn, kn, rfl⟩ : ∃ gn kn, v = .slice (some ⟨gn, 0, none⟩) m kn := by
        rcases hown.2 with ⟨e1, _⟩ | ⟨g, cap, cur, e1, _⟩
        · exact absurd e1 hnn
        · exact ⟨_, _, e1⟩
      have u1 := keepc hb b1 b3
      have u2 := keepf hb b2 b3
      have hrow := HBB.out.rowO hlt (by simp) h0 hb hown (by
        have e := row_clone HX2.out hown hb HPE.out
        intro k hk
        rw [show F i k = f i k by rw [HF.out]; exact if_pos hk]
        exact e k hk)
      have hrow2 : BldP w gO n (fun x => if x < i then m + e else if x = i then m else 0) F (w1.setCell ⟨gO, i, none⟩ (.slice (some ⟨gn, 0, none⟩) m kn)) := by
        have e1 : (fun x => if x < i then m + e else if x = i then m else 0) = fun x => if x = i then m else if x < i then m + e else 0 := by
          funext x
          by_cases h1 : x = i
          · subst h1; simp
          · simp [h1]
        rw [e1]; exact hrow
      have HR := Lib.hid hrow2
      clear hown hnn hb b1 b2 b3 hrow hrow2 HCL HX2 HPE HBB
      go_upto_region 7 with fail
      obtain ⟨W1, hW1⟩ : ∃ X : World, X = w1.setCell ⟨gO, i, none⟩ (.slice (some ⟨gn, 0, none⟩) m kn) := ⟨_, rfl⟩
      rw [← hW1]
      replace HR : Hid (BldP w gO n (fun x => if x < i then m + e else if x = i then m else 0) F W1) := by rw [hW1]; exact HR
      clear u1 u2 hW1
      go_loopw [27] (fun q (wr : World) => ∃ k : Nat, k ≤ e ∧ q = .int .i64 k ∧ BldP w gO n (fun x => if x < i then m + e else if x = i then m + k else 0) F wr) (fun q _ => e - (intOf q).toNat)
      case atStart => exact ⟨0, Nat.zero_le _, rfl, by simpa using HR.out⟩
      case round =>
        obtain ⟨j, hj, rfl, hB⟩ := hrel
        clear HR
        by_cases hlj : j < e
        · obtain ⟨R2, K2, g1, g2⟩ := HV.out.to hB.fin.2
          obtain ⟨bV, fv, rfl, hl2, hc2⟩ := g1 j hlj
          have hNj := HN.out j hlj
          obtain ⟨gb, eg, hq⟩ := g2 j hlj i (by omega)
          rw [eg] at hc2
          obtain ⟨A1, A2, A3, hcs, hq⟩ := hq
          have hlg : gb < wr.heap.size := World.block_lt_of_cell? wr ⟨gb, _, none⟩ hcs.1
          obtain ⟨v1, hv1, hv2, hpush⟩ := hB.push hlt (by simp; omega)
          obtain ⟨q, hqq⟩ : ∃ q, q = b j i := ⟨_, rfl⟩
          rw [← hqq] at hcs hq
          have hLk : F i ((fun x => if x < i then m + e else if x = i then m + j else 0) i) = q := by
            simp only [Nat.lt_irrefl, if_false, if_true]
            rw [HF.out, hqq]
            show (if m + j < m then _ else _) = _
            rw [if_neg (by omega), Nat.add_sub_cancel_left]
          have HLK := Lib.hid hLk
          have i3 : (0 : Int) ≤ (j : Int) := by omega
          have i4 : (j : Int) < (e : Int) := by omega
          generalize K2 j = kb at *
          obtain ⟨nb', hnb⟩ : ∃ x, x = N j := ⟨_, rfl⟩
          rw [← hnb] at hc2 hNj
          have i5 : (i : Int) < (nb' : Int) := by omega
          clear hB g1 g2 hqq eg hNj hLk hnb
          go_upto_region 9 with fail
          refine wp_region_any (by kernel_rfl) ?_
          refine wpAny_inv (fun l a' w' => ∃ V : Nat → Value, ∃ x10 x11 : Value, a' = ⟨#[.slice (some ⟨bA, fo, none⟩) n c, .slice (some ⟨bV, fv, none⟩) e ce, undef, undef, .slice none 0 0, .slice (some ⟨gO, 0, none⟩) n n, .int .i64 ↑i, .slice (some ⟨ga, 0, none⟩) m ka, undef, .slice (some ⟨gb, 0, none⟩) nb' kb, .slice (some ⟨bA, fo, none⟩) n c, .int .i64 ↑n, .slice (some ⟨gO, 0, none⟩) n n, .slice (some ⟨bA, fo, none⟩) n c, .int .i64 ↑n, .int .i64 ↑i, .bool true, .int .i64 ↑i, .pointer (some { block := bA, off := fo + i }), .slice (some ⟨ga, 0, none⟩) m ka, .slice (some ⟨gO, 0, none⟩) n n, .int .i64 ↑i, .slice (some ⟨ga, 0, none⟩) m ka, .slice (some ⟨gn, 0, none⟩) m kn, .pointer (some ⟨gO, i, none⟩), .slice (some ⟨bV, fv, none⟩) e ce, .int .i64 ↑e, .int .i64 ↑j, .bool true, .pointer (some { block := bV, off := fv + j }), .slice (some ⟨gb, 0, none⟩) nb' kb, V 0, V 1, V 2, V 3, V 4, V 5, V 6, V 7, V 8, V 9, x10, x11, V 12, u44, u45, undef], []⟩ ∧ OnFix l V (fun zz => List.getD [.slice (some ⟨gO, 0, none⟩) n n, .int .i64 i, .slice (some ⟨gO, 0, none⟩) n n, .int .i64 i, .pointer (some ⟨gO, i, none⟩), v1, .slice (some ⟨gb, 0, none⟩) nb' kb, .int .i64 i, .pointer (some ⟨gb, i * 5, none⟩), .agg #[.bool (sn (na q)), .slice A1 (ln (ab (na q))) (ln (ab (na q))), .bool (sn (nb q)), .slice A2 (ln (ab (nb q))) (ln (ab (nb q))), .slice A3 (ln (un q)) (ln (un q))], undef, undef, .pointer (some ⟨gO, i, none⟩), undef] zz undef) [0, 1, 2, 3, 4, 5, 6, 7, 8, 9, 12] ∧ Off l 11 (Below wr.heap.size wr w' ∧ On l 10 (BoxN wr.heap.size w' x10 q)) ∧ On l 11 (Off l 13 (MidP w gO n i (fun x => if x < i then m + e else if x = i then m + j else 0) F x11 w')) ∧ On l 13 (BldP w gO n (more (fun x => if x < i then m + e else if x = i then m + j else 0) i) F w') ∧ Edg l [(11, 5), (11, 10), (10, 9), (13, 11)] ∧ l.size = 14) ?_ ?_ _ _ _ _ (by decide) ?_
          · intro l a' W' i hi hI
            obtain ⟨V, x10, x11, rfl, hv, hZ, hM0, hM1, hE, hz⟩ := hI
            obtain ⟨hlt, hoff, hpre⟩ := ready_pre hi
            have hc : i ∈ [0, 1, 2, 3, 4, 5, 6, 7, 8, 9, 10, 11, 12, 13] := (by decide : ∀ i, i < 14 → i ∈ [0, 1, 2, 3, 4, 5, 6, 7, 8, 9, 10, 11, 12, 13]) i hlt
            simp only [List.mem_cons, List.not_mem_nil, or_false] at hc
            clear hi hlt
            rcases hc with rfl | rfl | rfl | rfl | rfl | rfl | rfl | rfl | rfl | rfl | rfl | rfl | rfl | rfl <;> (have hp := hpre _ rfl; simp [Region.binds] at hp; clear hpre)
            · skip
              have HV := Lib.hid hv
              clear hv
              refine wpOp_go rfl rfl (fun K hK => ?_)
              go_simp
              refine hK _ _ ?_
              exact ⟨_, _, _, rfl, HV.out.new (x := .slice (some ⟨gO, 0, none⟩) n n) rfl, hZ.keep.map (fun ⟨hb0, y10⟩ => ⟨hb0, y10.keep (by decide)⟩), (hM0.keep (by decide)).map Off.keep, hM1.keep (by decide), hE.mono (by decide), by simp [hz]⟩
            · skip
              have HV := Lib.hid hv
              clear hv
              refine wpOp_go rfl rfl (fun K hK => ?_)
              go_simp
              refine hK _ _ ?_
              exact ⟨_, _, _, rfl, HV.out.new (x := .int .i64 i) rfl, hZ.keep.map (fun ⟨hb0, y10⟩ => ⟨hb0, y10.keep (by decide)⟩), (hM0.keep (by decide)).map Off.keep, hM1.keep (by decide), hE.mono (by decide), by simp [hz]⟩
            · skip
              have HV := Lib.hid hv
              clear hv
              refine wpOp_go rfl rfl (fun K hK => ?_)
              go_simp
              refine hK _ _ ?_
              exact ⟨_, _, _, rfl, HV.out.new (x := .slice (some ⟨gO, 0, none⟩) n n) rfl, hZ.keep.map (fun ⟨hb0, y10⟩ => ⟨hb0, y10.keep (by decide)⟩), (hM0.keep (by decide)).map Off.keep, hM1.keep (by decide), hE.mono (by decide), by simp [hz]⟩
            · skip
              have HV := Lib.hid hv
              clear hv
              refine wpOp_go rfl rfl (fun K hK => ?_)
              go_simp
              refine hK _ _ ?_
              exact ⟨_, _, _, rfl, HV.out.new (x := .int .i64 i) rfl, hZ.keep.map (fun ⟨hb0, y10⟩ => ⟨hb0, y10.keep (by decide)⟩), (hM0.keep (by decide)).map Off.keep, hM1.keep (by decide), hE.mono (by decide), by simp [hz]⟩
            · skip
              have e2 : V 2 = .slice (some ⟨gO, 0, none⟩) n n := hv.get 2 (by decide) (by simp [hp])
              have e3 : V 3 = .int .i64 i := hv.get 3 (by decide) (by simp [hp])
              have HV := Lib.hid ((hv.fixE e2 rfl).fixE e3 rfl)
              clear hv
              simp only [e2, e3]
              refine wpOp_go rfl rfl (fun K hK => ?_)
              go_simp
              refine hK _ _ ?_
              exact ⟨_, _, _, rfl, HV.out.new (x := .pointer (some ⟨gO, i, none⟩)) rfl, hZ.keep.map (fun ⟨hb0, y10⟩ => ⟨hb0, y10.keep (by decide)⟩), (hM0.keep (by decide)).map Off.keep, hM1.keep (by decide), hE.mono (by decide), by simp [hz]⟩
            · skip
              have e4 : V 4 = .pointer (some ⟨gO, i, none⟩) := hv.get 4 (by decide) (by simp [hp])
              have HV := Lib.hid (hv.fixE e4 rfl)
              clear hv
              simp only [e4]
              have hY := hZ.get (fun h => off hoff (hE.get 11 5 (by decide) h))
              have z := keepc hY.1 hv1 hv2
              refine wpOp_go rfl rfl (fun K hK => ?_)
              go_simp
              refine hK _ _ ?_
              exact ⟨_, _, _, rfl, HV.out.new (x := v1) rfl, hZ.keep.map (fun ⟨hb0, y10⟩ => ⟨hb0, y10.keep (by decide)⟩), (hM0.keep (by decide)).map Off.keep, hM1.keep (by decide), hE.mono (by decide), by simp [hz]⟩
            · skip
              have HV := Lib.hid hv
              clear hv
              refine wpOp_go rfl rfl (fun K hK => ?_)
              go_simp
              refine hK _ _ ?_
              exact ⟨_, _, _, rfl, HV.out.new (x := .slice (some ⟨gb, 0, none⟩) nb' kb) rfl, hZ.keep.map (fun ⟨hb0, y10⟩ => ⟨hb0, y10.keep (by decide)⟩), (hM0.keep (by decide)).map Off.keep, hM1.keep (by decide), hE.mono (by decide), by simp [hz]⟩
            · skip
              have HV := Lib.hid hv
              clear hv
              refine wpOp_go rfl rfl (fun K hK => ?_)
              go_simp
              refine hK _ _ ?_
              exact ⟨_, _, _, rfl, HV.out.new (x := .int .i64 i) rfl, hZ.keep.map (fun ⟨hb0, y10⟩ => ⟨hb0, y10.keep (by decide)⟩), (hM0.keep (by decide)).map Off.keep, hM1.keep (by decide), hE.mono (by decide), by simp [hz]⟩
            · skip
              have e6 : V 6 = .slice (some ⟨gb, 0, none⟩) nb' kb := hv.get 6 (by decide) (by simp [hp])
              have e7 : V 7 = .int .i64 i := hv.get 7 (by decide) (by simp [hp])
              have HV := Lib.hid ((hv.fixE e6 rfl).fixE e7 rfl)
              clear hv
              simp only [e6, e7]
              refine wpOp_go rfl rfl (fun K hK => ?_)
              go_simp
              refine hK _ _ ?_
              exact ⟨_, _, _, rfl, HV.out.new (x := .pointer (some ⟨gb, i * 5, none⟩)) rfl, hZ.keep.map (fun ⟨hb0, y10⟩ => ⟨hb0, y10.keep (by decide)⟩), (hM0.keep (by decide)).map Off.keep, hM1.keep (by decide), hE.mono (by decide), by simp [hz]⟩
            · skip
              have e8 : V 8 = .pointer (some ⟨gb, i * 5, none⟩) := hv.get 8 (by decide) (by simp [hp])
              have HV := Lib.hid (hv.fixE e8 rfl)
              clear hv
              simp only [e8]
              have hY := hZ.get (fun h => off hoff (hE.get 10 9 (by decide) (hE.get 11 10 (by decide) h)))
              obtain ⟨z0, z1, z2, z3, z4⟩ := hcs
              have y0 := keepc hY.1 z0 hlg; have y1 := keepc hY.1 z1 hlg; have y2 := keepc hY.1 z2 hlg; have y3 := keepc hY.1 z3 hlg; have y4 := keepc hY.1 z4 hlg
              refine wpOp_go rfl rfl (fun K hK => ?_)
              go_simp
              refine hK _ _ ?_
              exact ⟨_, _, _, rfl, HV.out.new (x := .agg #[.bool (sn (na q)), .slice A1 (ln (ab (na q))) (ln (ab (na q))), .bool (sn (nb q)), .slice A2 (ln (ab (nb q))) (ln (ab (nb q))), .slice A3 (ln (un q)) (ln (un q))]) rfl, hZ.keep.map (fun ⟨hb0, y10⟩ => ⟨hb0, y10.keep (by decide)⟩), (hM0.keep (by decide)).map Off.keep, hM1.keep (by decide), hE.mono (by decide), by simp [hz]⟩
            · skip
              have e9 : V 9 = .agg #[.bool (sn (na q)), .slice A1 (ln (ab (na q))) (ln (ab (na q))), .bool (sn (nb q)), .slice A2 (ln (ab (nb q))) (ln (ab (nb q))), .slice A3 (ln (un q)) (ln (un q))] := hv.get 9 (by decide) (by simp [hp])
              have HV := Lib.hid (hv.fixE e9 rfl)
              clear hv
              simp only [e9]
              have hY := hZ.get (fun h => off hoff (hE.get 11 10 (by decide) h))
              refine wpOp_go rfl rfl (fun K hK => ?_)
              go_simp
              refine hK _ _ ?_
              exact ⟨_, _, _, rfl, HV.out.other (by decide), Off.new ⟨hY.1.trans ((((Below.refl _ _).alloc (Nat.le_refl _) _)).mono hY.1.size), On.new (BoxN.new (hq.to hY.1) hY.1.size)⟩, fun h => absurd (hE.get 11 10 (by decide) (on_ne h (by decide))) (off hoff), fun h => absurd (hE.get 11 10 (by decide) (hE.get 13 11 (by decide) (on_ne h (by decide)))) (off hoff), hE.step (by simp [hp]), by simp [hz]⟩
            · skip
              have e5 : V 5 = v1 := hv.get 5 (by decide) (by simp [hp])
              have HV := Lib.hid (hv.fixE e5 rfl)
              clear hv
              simp only [e5]
              have hY := hZ.get (off hoff)
              obtain ⟨bb, e0, hpe, hbb⟩ := hY.2.get (by simp [hp])
              subst e0
              obtain ⟨v', w3, er, m1, m2, m3, m4⟩ := hpush W' bb hY.1 hbb (by rw [HLK.out]; exact hpe)
              refine wpOp_go rfl rfl (fun K hK => ?_)
              refine wp_append_run rfl rfl rfl er ?_
              go_simp
              refine hK _ _ ?_
              exact ⟨_, _, _, rfl, HV.out.other (by decide), Off.done (by omega), On.new (Off.new (⟨m1, m2, m3, m4⟩)), fun h => absurd (hE.get 13 11 (by decide) (on_ne h (by decide))) (off hoff), hE.step (by simp [hp]), by simp [hz]⟩
            · skip
              have e0 : V 0 = .slice (some ⟨gO, 0, none⟩) n n := hv.get 0 (by decide) (by simp [hp])
              have e1 : V 1 = .int .i64 i := hv.get 1 (by decide) (by simp [hp])
              have HV := Lib.hid ((hv.fixE e0 rfl).fixE e1 rfl)
              clear hv
              simp only [e0, e1]
              refine wpOp_go rfl rfl (fun K hK => ?_)
              go_simp
              refine hK _ _ ?_
              exact ⟨_, _, _, rfl, HV.out.new (x := .pointer (some ⟨gO, i, none⟩)) rfl, hZ.keep.map (fun ⟨hb0, y10⟩ => ⟨hb0, y10.keep (by decide)⟩), (hM0.keep (by decide)).map Off.keep, hM1.keep (by decide), hE.mono (by decide), by simp [hz]⟩
            · skip
              have e12 : V 12 = .pointer (some ⟨gO, i, none⟩) := hv.get 12 (by decide) (by simp [hp])
              have HV := Lib.hid (hv.fixE e12 rfl)
              clear hv
              simp only [e12]
              have hY := (hM0.get (by simp [hp])).get (off hoff)
              obtain ⟨⟨v0, m1⟩, m2, ⟨S, sa, sb, m3⟩, m4⟩ := hY
              subst m3
              refine wpOp_go rfl rfl (fun K hK => ?_)
              go_simp
              refine hK _ _ ?_
              exact ⟨_, _, _, rfl, HV.out.other (by decide), fun h => absurd (on_mono (by simp [hp])) h, (hM0.keep (by decide)).map (fun _ => Off.done (by omega)), On.new (m4), hE.step (by simp [hp]), by simp [hz]⟩
          · intro l a' W' hr hI
            obtain ⟨V, x10, x11, rfl, hv, hZ, hM0, hM1, hE, hz⟩ := hI
            have a0 := not_ready (i := 0) hr hz rfl (by simp [Region.binds])
            have a1 := not_ready (i := 1) hr hz rfl (by simp [Region.binds, a0])
            have a2 := not_ready (i := 2) hr hz rfl (by simp [Region.binds, a0, a1])
            have a3 := not_ready (i := 3) hr hz rfl (by simp [Region.binds, a0, a1, a2])
            have a4 := not_ready (i := 4) hr hz rfl (by simp [Region.binds, a0, a1, a2, a3])
            have a5 := not_ready (i := 5) hr hz rfl (by simp [Region.binds, a0, a1, a2, a3, a4])
            have a6 := not_ready (i := 6) hr hz rfl (by simp [Region.binds, a0, a1, a2, a3, a4, a5])
            have a7 := not_ready (i := 7) hr hz rfl (by simp [Region.binds, a0, a1, a2, a3, a4, a5, a6])
            have a8 := not_ready (i := 8) hr hz rfl (by simp [Region.binds, a0, a1, a2, a3, a4, a5, a6, a7])
            have a9 := not_ready (i := 9) hr hz rfl (by simp [Region.binds, a0, a1, a2, a3, a4, a5, a6, a7, a8])
            have a10 := not_ready (i := 10) hr hz rfl (by simp [Region.binds, a0, a1, a2, a3, a4, a5, a6, a7, a8, a9])
            have a11 := not_ready (i := 11) hr hz rfl (by simp [Region.binds, a0, a1, a2, a3, a4, a5, a6, a7, a8, a9, a10])
            have a12 := not_ready (i := 12) hr hz rfl (by simp [Region.binds, a0, a1, a2, a3, a4, a5, a6, a7, a8, a9, a10, a11])
            have a13 := not_ready (i := 13) hr hz rfl (by simp [Region.binds, a0, a1, a2, a3, a4, a5, a6, a7, a8, a9, a10, a11, a12])
            have hY := hM1.get a13
            clear hr hz hv hZ a0 a1 a2 a3 a4 a5 a6 a7 a8 a9 a10 a11 a12 a13 hM0 hM1 hE
            go_wp2_with fail
            go_roundw
            case rel => exact ⟨j + 1, by omega, by go_num, by rw [show m + (j + 1) = (m + j) + 1 from rfl, ← step_len (fun _ => m + e)]; exact hY⟩
            case measure => simp [intOf]; omega
          · exact ⟨fun zz => List.getD [u31, u32, u33, u34, u35, u36, u37, u38, u39, u40, u41, u42, u43, undef] zz undef, _, _, rfl, OnFix.start, Off.new ⟨((Below.refl _ _).drew), fun h => absurd h (by decide)⟩, fun h => absurd h (by decide), fun h => absurd h (by decide), Edg.start, by simp⟩
        · obtain rfl : j = e := by omega
          go_wp2_with fail
          go_roundw
          case rel => exact ⟨i + 1, by omega, by go_num, by rw [next_len (fun _ => m + j)]; exact hB⟩
          case measure => simp [intOf]; omega
    · obtain rfl : i = n := by omega
      go_wp2_with fail
      go_ret
      exact ⟨_, rfl, hB⟩
/-- What is handed back is a matrix. -/
theorem RetBld.mat {w w' : World} {n m : Nat} {f : Nat → Nat → Cx} {e : Ending} (h : RetBld w n m f e w') : ∃ gO, e = .returned (.slice (some ⟨gO, 0, none⟩) n n) ∧ MatP w' (some ⟨gO, 0, none⟩) n (fun _ => m) f ∧ Below w.heap.size w w' := by
  obtain ⟨gO, e1, h1⟩ := h
  obtain ⟨h2, h3⟩ := h1.done
  exact ⟨gO, e1, h2, h3⟩
end Go.Proofs.Ytdpjknjlhchmcaa

namespace Go.Proofs.Ytdpjknjlhchmcaa
open Go.RowKit Pl
set_option linter.unusedVariables false
set_option linter.unusedSimpArgs false
/-- A matrix of n rows and m columns whose rows are blocks of its own. -/
def WkP (w0 : World) (z gO n m : Nat) (f : Nat → Nat → Cx) (w : World) : Prop :=
  w0.heap.size ≤ gO ∧ (gO < z ∧ z ≤ w.heap.size) ∧ (∃ F, w.rowIs gO 42 n F) ∧
  (∃ G K : Nat → Nat, (∀ i, i < n → w.cell? ⟨gO, i, none⟩ = some (.slice (some ⟨G i, 0, none⟩) m (K i)) ∧ w0.heap.size ≤ G i ∧ G i ≠ gO ∧ G i < z ∧ m ≤ K i ∧ RowB w (G i) 34 (K i * 5) ∧ ∀ k, k < m → PE w (G i) (k * 5) (f i k)) ∧
    ∀ i k, i < n → k < n → G i = G k → i = k) ∧ Below w0.heap.size w0 w
theorem WkP.to {w0 w w' : World} {z gO n m : Nat} {f : Nat → Nat → Cx} (h : WkP w0 z gO n m f w) (hb : Below w.heap.size w w') : WkP w0 z gO n m f w' := by
  obtain ⟨h1, h2, ⟨F, h3⟩, ⟨G, K, h4, h6⟩, h7⟩ := h
  have hl : gO < w.heap.size := Nat.lt_of_lt_of_le h2.1 h2.2
  exact ⟨h1, ⟨h2.1, Nat.le_trans h2.2 hb.size⟩, ⟨F, h3.of_block (hb.block gO hl)⟩, ⟨G, K, fun i hi => by
    obtain ⟨a1, a2, a3, a4, a5, a6, a7⟩ := h4 i hi
    exact ⟨keepc hb a1 hl, a2, a3, a4, a5, a6.to hb, fun k hk => (a7 k hk).to hb⟩, h6⟩, h7.trans (hb.mono h7.size)⟩
theorem WkP.below {w0 w : World} {z gO n m : Nat} {f : Nat → Nat → Cx} (h : WkP w0 z gO n m f w) : Below w0.heap.size w0 w := h.2.2.2.2
theorem WkP.lt {w0 w : World} {z gO n m : Nat} {f : Nat → Nat → Cx} (h : WkP w0 z gO n m f w) : gO < w.heap.size := Nat.lt_of_lt_of_le h.2.1.1 h.2.1.2
theorem WkP.cong {w0 w : World} {z gO n m : Nat} {f f' : Nat → Nat → Cx} (h : WkP w0 z gO n m f w) (e : ∀ i k, i < n → k < m → f' i k = f i k) : WkP w0 z gO n m f' w := by
  obtain ⟨h1, h2, h3, ⟨G, K, h4, h6⟩, h7⟩ := h
  exact ⟨h1, h2, h3, ⟨G, K, fun i hi => by
    obtain ⟨a1, a2, a3, a4, a5, a6, a7⟩ := h4 i hi
    exact ⟨a1, a2, a3, a4, a5, a6, fun k hk => by rw [e i k hi hk]; exact a7 k hk⟩, h6⟩, h7⟩
theorem WkP.of {w0 w : World} {gO n m : Nat} {f : Nat → Nat → Cx} (h : BldP w0 gO n (fun i => if i < n then m else 0) f w) (hm : 0 < n → 0 < m) : WkP w0 w.heap.size gO n m f w := by
  obtain ⟨h1, h2, h3, ⟨V, G, h4, h5⟩, h6⟩ := h
  have each : ∀ i, ∃ k : Nat, i < n → (w.cell? ⟨gO, i, none⟩ = some (.slice (some ⟨G i, 0, none⟩) m k) ∧ w0.heap.size ≤ G i ∧ G i ≠ gO ∧ G i < w.heap.size ∧ m ≤ k ∧ RowB w (G i) 34 (k * 5) ∧ ∀ k, k < m → PE w (G i) (k * 5) (f i k)) := by
    intro i
    by_cases hi : i < n
    · replace hm : 0 < m := hm (by omega)
      obtain ⟨hc, hr⟩ := h4 i hi
      have hl := hr.lt (by simp only [if_pos hi]; exact hm)
      simp only [if_pos hi] at hr
      rcases hr with ⟨e, _⟩ | ⟨c, xs, k1, k2, k3, k4, k5⟩
      · omega
      · rw [k2] at k4
        rcases k4.2 with ⟨e, _⟩ | ⟨g', cap, cur, e, q1, q2, q3, q4, q5, q6⟩
        · cases e
        · injection e with e1 e2 e3
          injection e1 with e1; injection e1 with e1
          subst e1 e3
          obtain ⟨_, _, _, ⟨z0, _⟩, _⟩ := k5 0 hm
          rw [Nat.zero_mul] at z0
          exact ⟨c, fun _ => ⟨by rw [hc, k2], q1, k3, hl, q3, ⟨⟨fun j => (cur[j]?).getD (.bool false), cur, q2, q5, fun j hj => by simp [Array.getElem?_eq_getElem (show j < cur.size by omega)]⟩, _, z0⟩, k5⟩⟩
    · exact ⟨0, fun h => absurd h hi⟩
  obtain ⟨K, hK⟩ := Classical.skolem.1 each
  exact ⟨h1, ⟨h2, Nat.le_refl _⟩, h3, ⟨G, K, fun i hi => hK i hi, fun i k hi hk he => h5 i k hi hk (by simp only [if_pos hi]; exact hm (by omega)) (by simp only [if_pos hk]; exact hm (by omega)) he⟩, h6⟩
/-- A row: where it lies, what it holds. -/
theorem WkP.row {w0 w : World} {z gO n m : Nat} {f : Nat → Nat → Cx} (h : WkP w0 z gO n m f w) {i : Nat} (hi : i < n) : ∃ g c, w.cell? ⟨gO, i, none⟩ = some (.slice (some ⟨g, 0, none⟩) m c) ∧ g < w.heap.size ∧ g < z ∧ ∀ k, k < m → PE w g (k * 5) (f i k) := by
  obtain ⟨_, h2, _, ⟨G, K, h4, _⟩, _⟩ := h
  obtain ⟨a1, a2, a3, a4, a5, a6, a7⟩ := h4 i hi
  exact ⟨_, _, a1, Nat.lt_of_lt_of_le a4 h2.2, a4, a7⟩
theorem WkP.mat {w0 w : World} {z gO n m : Nat} {f : Nat → Nat → Cx} (h : WkP w0 z gO n m f w) : MatP w (some ⟨gO, 0, none⟩) n (fun _ => m) f := by
  obtain ⟨h1, h2, _, ⟨G, K, h4, _⟩, h7⟩ := h
  exact ⟨fun i => some ⟨G i, 0, none⟩, K, fun i hi => ⟨gO, 0, rfl, Nat.lt_of_lt_of_le h2.1 h2.2, by rw [Nat.zero_add]; exact (h4 i hi).1⟩, fun i hi j hj => ⟨_, rfl, (h4 i hi).2.2.2.2.2.2 j hj⟩⟩
/-- An entry is stored. -/
theorem WkP.put {w0 W : World} {z gO n m i k : Nat} {f : Nat → Nat → Cx} (h : WkP w0 z gO n m f W) (hi : i < n) (hk : k < m) :
    ∃ g c, W.cell? ⟨gO, i, none⟩ = some (.slice (some ⟨g, 0, none⟩) m c) ∧ g < W.heap.size ∧ g < z ∧ PE W g (k * 5) (f i k) ∧ ∀ w, Below W.heap.size W w →
      (∃ u0 u1 u2 u3 u4, w.cell? ⟨g, k * 5, none⟩ = some u0 ∧ w.cell? ⟨g, k * 5 + 1, none⟩ = some u1 ∧ w.cell? ⟨g, k * 5 + 2, none⟩ = some u2 ∧ w.cell? ⟨g, k * 5 + 3, none⟩ = some u3 ∧ w.cell? ⟨g, k * 5 + 4, none⟩ = some u4) ∧
      (w.frozen? ⟨g, k * 5, none⟩ = false ∧ w.frozen? ⟨g, k * 5 + 1, none⟩ = false ∧ w.frozen? ⟨g, k * 5 + 2, none⟩ = false ∧ w.frozen? ⟨g, k * 5 + 3, none⟩ = false ∧ w.frozen? ⟨g, k * 5 + 4, none⟩ = false) ∧ (∃ c, w.cell? ⟨g, 0, none⟩ = some (.bool c)) ∧
      ∀ (f' : Nat → Nat → Cx) (q : Cx) (A1 A2 A3 : Option Addr), Num3 w A1 A2 A3 q → f' i k = q → (∀ a b, a < n → b < m → ¬ (a = i ∧ b = k) → f' a b = f a b) → WkP w0 z gO n m f' (set5o w g (k * 5) q A1 A2 A3) := by
  have hW := h
  obtain ⟨h1, h2, _, ⟨G, K, h4, h6⟩, _⟩ := hW
  obtain ⟨a1, a2, a3, a4, a5, a6, a7⟩ := h4 i hi
  have hl : gO < W.heap.size := Nat.lt_of_lt_of_le h2.1 h2.2
  refine ⟨G i, K i, a1, Nat.lt_of_lt_of_le a4 h2.2, a4, a7 k hk, fun w hb => ?_⟩
  obtain ⟨k1, k2, ⟨F, k3⟩, _, k7⟩ := h.to hb
  have hrow := a6.to hb
  obtain ⟨⟨F2, q1⟩, c, q2⟩ := hrow
  have e5 : k * 5 + 5 ≤ K i * 5 := by omega
  refine ⟨⟨_, _, _, _, _, q1.cell (by omega), q1.cell (by omega), q1.cell (by omega), q1.cell (by omega), q1.cell (by omega)⟩, ⟨q1.frozen _, q1.frozen _, q1.frozen _, q1.frozen _, q1.frozen _⟩, ⟨_, q2⟩, fun f' q A1 A2 A3 hq hf hD => ?_⟩
  refine ⟨k1, ⟨k2.1, by rw [set5o_size]; exact k2.2⟩, ?_, ⟨G, K, fun j hj => ?_, h6⟩, set5o_below k7 a2⟩
  · exact ⟨F, ((((k3.setOther (a := ⟨G i, k * 5, none⟩) (Ne.symm a3) _).setOther (a := ⟨G i, k * 5 + 1, none⟩) (Ne.symm a3) _).setOther (a := ⟨G i, k * 5 + 2, none⟩) (Ne.symm a3) _).setOther (a := ⟨G i, k * 5 + 3, none⟩) (Ne.symm a3) _).setOther (a := ⟨G i, k * 5 + 4, none⟩) (Ne.symm a3) _⟩
  · obtain ⟨b1, b2, b3, b4, b5, b6, b7⟩ := h4 j hj
    refine ⟨set5o_cell (keepc hb b1 hl) (.inl (Ne.symm a3)), b2, b3, b4, b5, (b6.to hb).set5o, fun l hl => ?_⟩
    by_cases e : j = i ∧ l = k
    · obtain ⟨rfl, rfl⟩ := e
      rw [hf]
      exact pe_set q1 e5 q2 hq
    · rw [hD j l hj hl e]
      refine ((b7 l hl).to hb).set5o ?_ q2
      by_cases ej : j = i
      · subst ej
        right
        have : l ≠ k := fun e2 => e ⟨rfl, e2⟩
        omega
      · left
        intro e2
        exact ej (h6 j i hj hi e2)
end Go.Proofs.Ytdpjknjlhchmcaa

namespace Go.Proofs.Ytdpjknjlhchmcaa
open Go.RowKit Pl
set_option linter.unusedVariables false
set_option linter.unusedSimpArgs false
/-- A slot holds a number of the reference. -/
def SlotNumC (w : World) (u : Value) (q : Cx) : Prop := ∃ A1 A2 A3 c1 c2 c3, u = .agg #[.bool (sn (na q)), .slice A1 (ln (ab (na q))) c1, .bool (sn (nb q)), .slice A2 (ln (ab (nb q))) c2, .slice A3 (ln (nd q)) c3] ∧ Num3C w A1 A2 A3 q
theorem SlotNumC.to {w w' : World} {u : Value} {q : Cx} (h : SlotNumC w u q) (hb : Below w.heap.size w w') : SlotNumC w' u q := by
  obtain ⟨A1, A2, A3, c1, c2, c3, e, h⟩ := h; exact ⟨A1, A2, A3, c1, c2, c3, e, h.to hb⟩
def Froz (w : World) (g : Nat) : Prop := w.frozen? ⟨g, 0, none⟩ = false ∧ w.frozen? ⟨g, 1, none⟩ = false ∧ w.frozen? ⟨g, 2, none⟩ = false ∧ w.frozen? ⟨g, 3, none⟩ = false ∧ w.frozen? ⟨g, 4, none⟩ = false
/-- Five cells of a variable. -/
def Var5 (w : World) (g : Nat) : Prop := g < w.heap.size ∧ (∃ c v1 v2 v3 v4, w.cell? ⟨g, 0, none⟩ = some (.bool c) ∧ w.cell? ⟨g, 1, none⟩ = some v1 ∧ w.cell? ⟨g, 2, none⟩ = some v2 ∧ w.cell? ⟨g, 3, none⟩ = some v3 ∧ w.cell? ⟨g, 4, none⟩ = some v4) ∧ Froz w g
/-- The variable holds a number of the program; of the reference. -/
def HasP (w : World) (g : Nat) (q : Cx) : Prop := g < w.heap.size ∧ (∃ A1 A2 A3, Cells5 w g q A1 A2 A3 ∧ Num3 w A1 A2 A3 q) ∧ Froz w g
def HasR (w : World) (g : Nat) (q : Cx) : Prop := g < w.heap.size ∧ (∃ A1 A2 A3 k1 k2 k3, Cells5c w g q A1 A2 A3 k1 k2 k3 ∧ Num3C w A1 A2 A3 q) ∧ Froz w g
theorem HasP.var {w : World} {g : Nat} {q : Cx} (h : HasP w g q) : Var5 w g := by
  obtain ⟨l, ⟨A1, A2, A3, ⟨c0, c1, c2, c3, c4⟩, _⟩, f⟩ := h; exact ⟨l, ⟨_, _, _, _, _, c0, c1, c2, c3, c4⟩, f⟩
theorem HasR.var {w : World} {g : Nat} {q : Cx} (h : HasR w g q) : Var5 w g := by
  obtain ⟨l, ⟨A1, A2, A3, k1, k2, k3, ⟨c0, c1, c2, c3, c4⟩, _⟩, f⟩ := h; exact ⟨l, ⟨_, _, _, _, _, c0, c1, c2, c3, c4⟩, f⟩
theorem Froz.to {w w' : World} {g : Nat} (h : Froz w g) (hb : Below w.heap.size w w') (hl : g < w.heap.size) : Froz w' g := ⟨keepf hb h.1 hl, keepf hb h.2.1 hl, keepf hb h.2.2.1 hl, keepf hb h.2.2.2.1 hl, keepf hb h.2.2.2.2 hl⟩
theorem Froz.set5 {w : World} {g p : Nat} {q : Cx} {A1 A2 A3 : Option Addr} (h : Froz w g) : Froz (set5 w p q A1 A2 A3) g := ⟨set5_frozen h.1, set5_frozen h.2.1, set5_frozen h.2.2.1, set5_frozen h.2.2.2.1, set5_frozen h.2.2.2.2⟩
theorem Var5.to {w w' : World} {g : Nat} (h : Var5 w g) (hb : Below w.heap.size w w') : Var5 w' g := by
  obtain ⟨l, ⟨c, v1, v2, v3, v4, c0, c1, c2, c3, c4⟩, f⟩ := h
  exact ⟨Nat.lt_of_lt_of_le l hb.size, ⟨c, v1, v2, v3, v4, keepc hb c0 l, keepc hb c1 l, keepc hb c2 l, keepc hb c3 l, keepc hb c4 l⟩, f.to hb l⟩
theorem HasP.to {w w' : World} {g : Nat} {q : Cx} (h : HasP w g q) (hb : Below w.heap.size w w') : HasP w' g q := by
  obtain ⟨l, ⟨A1, A2, A3, ⟨c0, c1, c2, c3, c4⟩, n⟩, f⟩ := h
  exact ⟨Nat.lt_of_lt_of_le l hb.size, ⟨A1, A2, A3, ⟨keepc hb c0 l, keepc hb c1 l, keepc hb c2 l, keepc hb c3 l, keepc hb c4 l⟩, n.to hb⟩, f.to hb l⟩
theorem HasR.to {w w' : World} {g : Nat} {q : Cx} (h : HasR w g q) (hb : Below w.heap.size w w') : HasR w' g q := by
  obtain ⟨l, ⟨A1, A2, A3, k1, k2, k3, ⟨c0, c1, c2, c3, c4⟩, n⟩, f⟩ := h
  exact ⟨Nat.lt_of_lt_of_le l hb.size, ⟨A1, A2, A3, k1, k2, k3, ⟨keepc hb c0 l, keepc hb c1 l, keepc hb c2 l, keepc hb c3 l, keepc hb c4 l⟩, n.to hb⟩, f.to hb l⟩
-- a store into the block p (a number of the program)
theorem set5_num3C {w : World} {p : Nat} {q r : Cx} {A1 A2 A3 B1 B2 B3 : Option Addr} {c : Bool} (h : Num3C w B1 B2 B3 r) (u : w.cell? ⟨p, 0, none⟩ = some (.bool c)) : Num3C (set5 w p q A1 A2 A3) B1 B2 B3 r := ⟨set5_nat h.1 u, set5_nat h.2.1 u, set5_nat h.2.2 u⟩
theorem SlotNumC.set5 {w : World} {u : Value} {q r : Cx} {p : Nat} {A1 A2 A3 : Option Addr} {c : Bool} (h : SlotNumC w u r) (k : w.cell? ⟨p, 0, none⟩ = some (.bool c)) : SlotNumC (set5 w p q A1 A2 A3) u r := by
  obtain ⟨B1, B2, B3, d1, d2, d3, e, h⟩ := h; exact ⟨B1, B2, B3, d1, d2, d3, e, set5_num3C h k⟩
theorem HasP.set5 {w : World} {g p : Nat} {q r : Cx} {A1 A2 A3 : Option Addr} {c : Bool} (h : HasP w g r) (hn : g ≠ p) (k : w.cell? ⟨p, 0, none⟩ = some (.bool c)) : HasP (set5 w p q A1 A2 A3) g r := by
  obtain ⟨l, ⟨B1, B2, B3, ⟨c0, c1, c2, c3, c4⟩, n⟩, f⟩ := h
  exact ⟨by rw [set5_size]; exact l, ⟨B1, B2, B3, ⟨set5_cell c0 hn, set5_cell c1 hn, set5_cell c2 hn, set5_cell c3 hn, set5_cell c4 hn⟩, set5_num3 n k⟩, f.set5⟩
theorem HasR.set5 {w : World} {g p : Nat} {q r : Cx} {A1 A2 A3 : Option Addr} {c : Bool} (h : HasR w g r) (hn : g ≠ p) (k : w.cell? ⟨p, 0, none⟩ = some (.bool c)) : HasR (set5 w p q A1 A2 A3) g r := by
  obtain ⟨l, ⟨B1, B2, B3, d1, d2, d3, ⟨c0, c1, c2, c3, c4⟩, n⟩, f⟩ := h
  exact ⟨by rw [set5_size]; exact l, ⟨B1, B2, B3, d1, d2, d3, ⟨set5_cell c0 hn, set5_cell c1 hn, set5_cell c2 hn, set5_cell c3 hn, set5_cell c4 hn⟩, set5_num3C n k⟩, f.set5⟩
theorem Var5.set5 {w : World} {g p : Nat} {q : Cx} {A1 A2 A3 : Option Addr} (h : Var5 w g) (hn : g ≠ p) : Var5 (set5 w p q A1 A2 A3) g := by
  obtain ⟨l, ⟨c, v1, v2, v3, v4, c0, c1, c2, c3, c4⟩, f⟩ := h
  exact ⟨by rw [set5_size]; exact l, ⟨c, v1, v2, v3, v4, set5_cell c0 hn, set5_cell c1 hn, set5_cell c2 hn, set5_cell c3 hn, set5_cell c4 hn⟩, f.set5⟩
theorem Var5.putP {w : World} {p : Nat} {q : Cx} {A1 A2 A3 : Option Addr} (h : Var5 w p) (hq : Num3 w A1 A2 A3 q) : HasP (Proofs.Ytdpjknjlhchmcaa.set5 w p q A1 A2 A3) p q := by
  obtain ⟨l, ⟨c, v1, v2, v3, v4, c0, c1, c2, c3, c4⟩, f⟩ := h
  exact ⟨by rw [set5_size]; exact l, ⟨A1, A2, A3, set5_self c0 c1 c2 c3 c4, set5_num3 hq c0⟩, f.set5⟩
theorem Var5.new {w : World} {T : TypeId} : Var5 (w.alloc (.cells #[.bool false, .slice none 0 0, .bool false, .slice none 0 0, .slice none 0 0] T)) w.heap.size :=
  ⟨by simp, ⟨false, .slice none 0 0, .bool false, .slice none 0 0, .slice none 0 0, by go_simp, by go_simp, by go_simp, by go_simp, by go_simp⟩, by go_simp, by go_simp, by go_simp, by go_simp, by go_simp⟩
/-- What a slot points to. -/
def AtV (B : Nat) (w : World) (u : Value) : Prop := ∃ g, u = .pointer (some ⟨g, 0, none⟩) ∧ B ≤ g ∧ Var5 w g
theorem AtV.to {B : Nat} {w w' : World} {u : Value} (h : AtV B w u) (hb : Below w.heap.size w w') : AtV B w' u := by obtain ⟨g, e, h1, h2⟩ := h; exact ⟨g, e, h1, h2.to hb⟩
theorem AtV.new {B : Nat} {w : World} {T : TypeId} (hB : B ≤ w.heap.size) : AtV B (w.alloc (.cells #[.bool false, .slice none 0 0, .bool false, .slice none 0 0, .slice none 0 0] T)) (.pointer (some ⟨w.heap.size, 0, none⟩)) := ⟨_, rfl, hB, Var5.new⟩
theorem AtV.ne {B : Nat} {w : World} {u : Value} (h : AtV B w u) : u ≠ .pointer (some ⟨w.heap.size, 0, none⟩) := by
  obtain ⟨g, e, h1, h2, _⟩ := h
  intro e2; rw [e] at e2
  injection e2 with e2; injection e2 with e2; injection e2 with e2; omega
theorem AtV.set5 {B : Nat} {w : World} {u : Value} {q : Cx} {p : Nat} {A1 A2 A3 : Option Addr} (h : AtV B w u) (hn : u ≠ .pointer (some ⟨p, 0, none⟩)) : AtV B (set5 w p q A1 A2 A3) u := by
  obtain ⟨g, e, h1, h2⟩ := h; exact ⟨g, e, h1, h2.set5 (by rintro rfl; exact hn e)⟩
/-- A slot points to a variable that holds a number. -/
def PtP (w : World) (u : Value) (q : Cx) : Prop := ∃ g, u = .pointer (some ⟨g, 0, none⟩) ∧ HasP w g q
def PtR (w : World) (u : Value) (q : Cx) : Prop := ∃ g, u = .pointer (some ⟨g, 0, none⟩) ∧ HasR w g q
theorem PtP.to {w w' : World} {u : Value} {q : Cx} (h : PtP w u q) (hb : Below w.heap.size w w') : PtP w' u q := by obtain ⟨g, e, h⟩ := h; exact ⟨g, e, h.to hb⟩
theorem PtR.to {w w' : World} {u : Value} {q : Cx} (h : PtR w u q) (hb : Below w.heap.size w w') : PtR w' u q := by obtain ⟨g, e, h⟩ := h; exact ⟨g, e, h.to hb⟩
theorem PtP.set5 {w : World} {u : Value} {q r : Cx} {p : Nat} {A1 A2 A3 : Option Addr} {c : Bool} (h : PtP w u r) (hn : u ≠ .pointer (some ⟨p, 0, none⟩)) (k : w.cell? ⟨p, 0, none⟩ = some (.bool c)) : PtP (set5 w p q A1 A2 A3) u r := by
  obtain ⟨g, e, h⟩ := h; exact ⟨g, e, h.set5 (by rintro rfl; exact hn e) k⟩
theorem PtR.set5 {w : World} {u : Value} {q r : Cx} {p : Nat} {A1 A2 A3 : Option Addr} {c : Bool} (h : PtR w u r) (hn : u ≠ .pointer (some ⟨p, 0, none⟩)) (k : w.cell? ⟨p, 0, none⟩ = some (.bool c)) : PtR (set5 w p q A1 A2 A3) u r := by
  obtain ⟨g, e, h⟩ := h; exact ⟨g, e, h.set5 (by rintro rfl; exact hn e) k⟩
theorem HasP.slot {w : World} {g : Nat} {q : Cx} (h : HasP w g q) : ∃ A1 A2 A3, Cells5 w g q A1 A2 A3 ∧ Num3 w A1 A2 A3 q := h.2.1
theorem HasR.slot {w : World} {g : Nat} {q : Cx} (h : HasR w g q) : ∃ A1 A2 A3 k1 k2 k3, Cells5c w g q A1 A2 A3 k1 k2 k3 ∧ Num3C w A1 A2 A3 q := h.2.1
end Go.Proofs.Ytdpjknjlhchmcaa

namespace Go.Proofs.Ytdpjknjlhchmcaa
open Go.RowKit Pl
set_option linter.unusedVariables false
set_option linter.unusedSimpArgs false
theorem valid_col {n : Nat} {N : Nat → Nat} (hV : Valid n N) : ∀ j, j < n → N j = colN n N := by
  intro j hj
  unfold colN
  rw [if_neg (by omega)]
  rcases hV with h | ⟨_, _, h⟩
  · omega
  · exact h j hj
theorem col_le {n : Nat} {N : Nat → Nat} (hN : ∀ i, i < n → N i ≤ 1000) : colN n N ≤ 1000 := by
  unfold colN
  split
  · omega
  · exact hN 0 (by omega)
theorem bool_iff (p : Prop) : ∃ b : Bool, b = true ↔ p := by
  by_cases h : p
  · exact ⟨true, by simp [h]⟩
  · exact ⟨false, by simp [h]⟩
/-- An element of a matrix. -/
theorem MatP.at {w : World} {A : Option Addr} {n : Nat} {N : Nat → Nat} {f : Nat → Nat → Cx} (h : MatP w A n N f) {i j m : Nat} (hi : i < n) (hj : j < m) (hm : N i = m) :
    ∃ b fo g K' A1 A2 A3, A = some ⟨b, fo, none⟩ ∧ b < w.heap.size ∧ w.cell? ⟨b, fo + i, none⟩ = some (.slice (some ⟨g, 0, none⟩) m K') ∧ g < w.heap.size ∧
      (w.cell? ⟨g, j * 5, none⟩ = some (.bool (sn (na (f i j)))) ∧ w.cell? ⟨g, j * 5 + 1, none⟩ = some (.slice A1 (ln (ab (na (f i j)))) (ln (ab (na (f i j))))) ∧ w.cell? ⟨g, j * 5 + 2, none⟩ = some (.bool (sn (nb (f i j)))) ∧ w.cell? ⟨g, j * 5 + 3, none⟩ = some (.slice A2 (ln (ab (nb (f i j)))) (ln (ab (nb (f i j))))) ∧ w.cell? ⟨g, j * 5 + 4, none⟩ = some (.slice A3 (ln (un (f i j))) (ln (un (f i j))))) ∧ Num3 w A1 A2 A3 (f i j) := by
  obtain ⟨R, K, h1, h2⟩ := h
  obtain ⟨b, fo, e, hl, hc⟩ := h1 i hi
  obtain ⟨g, eg, A1, A2, A3, hcs, hq⟩ := h2 i hi j (by omega)
  exact ⟨b, fo, g, K i, A1, A2, A3, e, hl, by rw [hc, eg, hm], World.block_lt_of_cell? w ⟨g, _, none⟩ hcs.1, hcs, hq⟩
set_option maxRecDepth 100000 in
set_option maxHeartbeats 40000000 in
theorem product_big (w : World) (A B : Option Addr) (n c nq c2 : Nat) (N M : Nat → Nat) (f g : Nat → Nat → Cx) (hA : MatP w A n N f) (hB : MatP w B nq M g) (hn : n ≤ 1000) (hN : ∀ i, i < n → N i ≤ 1000) (hnq : nq ≤ 1000) (hM : ∀ i, i < nq → M i ≤ 1000)
    (hva : Valid n N) (hvb : Valid nq M) (hE : colN n N = nq) (hS : ∀ i k j, i < n → k < colN nq M → j < nq → sz 137438953472 (f i j) ∧ sz 137438953472 (g j k) ∧ sz 137438953472 (dotC f g i k j) ∧ sz 137438953472 ((f i j).mul (g j k))) :
    Calls Try.prog 7 #[.slice A n c, .slice B nq c2] w (RetMatE w n (fun _ => colN nq M) fun i k => dotC f g i k nq) := by
  obtain ⟨F, hF⟩ : ∃ F : Nat → Nat → Cx, F = fun i k => dotC f g i k nq := ⟨_, rfl⟩
  rw [← hF]
  have HMA := Lib.hid hA; have HMB := Lib.hid hB
  obtain ⟨R, K, hG, _⟩ := hA
  obtain ⟨R2, K2, hG2, _⟩ := hB
  have hNa := valid_col hva
  rw [hE] at hNa
  have hMb := valid_col hvb
  have hp := col_le hM
  have HC := columns_any w A n c R N K hG hn hN true ⟨fun _ => hva, fun _ => rfl⟩
  have HC2 := Lib.hid (fun w2 (hb : Below w.heap.size w w2) => columns_any w2 B nq c2 R2 M K2 (hG2.to hb) hnq hM true ⟨fun _ => hvb, fun _ => rfl⟩)
  have hz : colN nq M ≠ 0 → 0 < nq := by unfold colN; split <;> omega
  rw [hE] at HC
  generalize colN nq M = m at *
  have HNa := Lib.hid hNa; have HMb := Lib.hid hMb; have HS := Lib.hid hS; have HF := Lib.hid hF; have HZ := Lib.hid hz
  clear hG hG2 hN hM hva hvb hE hNa hMb hS hF hz
  have hmk := mk_nums2 n (by omega)
  have hm_Mul : ∀ (k : Nat) (v1 v2 v3 v4 v5 : Value) (w : World), (method (k + 1) 34 (.agg #[v1, v2, v3, v4, v5]) "Mul").run Try.prog w = .ok (10, .agg #[v1, v2, v3, v4, v5]) w := fun _ _ _ _ _ _ _ => by kernel_rfl
  have hm_Add : ∀ (k : Nat) (v1 v2 v3 v4 v5 : Value) (w : World), (method (k + 1) 34 (.agg #[v1, v2, v3, v4, v5]) "Add").run Try.prog w = .ok (22, .agg #[v1, v2, v3, v4, v5]) w := fun _ _ _ _ _ _ _ => by kernel_rfl
  have t : ((nq : Int) != (nq : Int)) = false := by rw [bne_eq_false_iff_eq]
  go_enter Try.func7, Try.ntmps7
  go_wp2_with fail
  refine HC.mono ?_
  rintro e w1 ⟨rfl, hb1⟩
  go_wp2_with fail
  refine (HC2.out w1 hb1).mono ?_
  rintro e w2 ⟨rfl, hb2⟩
  have HB := Lib.hid (hb1.trans (hb2.mono hb1.size))
  clear hb1 hb2 HC HC2
  go_wp2_with fail
  clear hmk t
  have hB0 : BldP w2 w2.heap.size n (fun _ => 0) F (mkS w2 n 42) := BldP.new
  generalize mkS w2 n 42 = W0 at *
  obtain ⟨gO, hgO⟩ : ∃ g, g = w2.heap.size := ⟨_, rfl⟩
  rw [← hgO] at hB0 ⊢
  clear hgO
  replace HMA := Lib.hid (HMA.out.to HB.out); replace HMB := Lib.hid (HMB.out.to HB.out)
  go_loopw [42] (fun i (wr : World) => ∃ k : Nat, k ≤ n ∧ i = .int .i64 k ∧ BldP w2 gO n (fun i => if i < k then m else 0) F wr) (fun i _ => n - (intOf i).toNat)
  case atStart => exact ⟨0, Nat.zero_le _, rfl, by simpa using hB0⟩
  case round =>
    obtain ⟨i, hi, rfl, hB⟩ := hrel
    clear hB0
    by_cases hlt : i < n
    · have hB2 : BldP w2 gO n (fun x => if x < i then m else if x = i then 0 else 0) F wr := by simpa using hB
      clear hB
      go_upto_region 10 with fail
      go_loopw [46] (fun q (wr : World) => ∃ k : Nat, k ≤ m ∧ q = .int .i64 k ∧ BldP w2 gO n (fun x => if x < i then m else if x = i then k else 0) F wr) (fun q _ => m - (intOf q).toNat)
      case atStart => exact ⟨0, Nat.zero_le _, rfl, hB2⟩
      case round =>
        obtain ⟨k, hk, rfl, hB3⟩ := hrel
        clear hB2
        by_cases hlk : k < m
        · have hp0 : 0 < nq := HZ.out (by omega)
          obtain ⟨b, fo, ga, Ka, A1, A2, A3, rfl, ha1, ha2, ha3, ha4, ha5⟩ := (HMA.out.to hB3.fin.2).at hlt hp0 (HNa.out i hlt)
          obtain ⟨b2, fo2, gb, Kb, B1, B2, B3, rfl, hb1, hb2, hb3, hb4, hb5⟩ := (HMB.out.to hB3.fin.2).at hp0 hlk (HMb.out 0 hp0)
          simp only [Nat.add_zero, Nat.zero_mul, Nat.zero_add] at ha4 hb2
          obtain ⟨zx, zy, _, _⟩ := HS.out i k 0 hlt hlk hp0
          obtain ⟨x, hx⟩ : ∃ x, x = f i 0 := ⟨_, rfl⟩
          obtain ⟨y, hy⟩ : ∃ y, y = g 0 k := ⟨_, rfl⟩
          rw [← hx] at ha4 ha5 zx
          rw [← hy] at hb4 hb5 zy
          have hs1 : dotC f g i k 1 = x.mul y := by rw [hx, hy]; exact zero_add_c _
          have HS1 := Lib.hid hs1
          have i1 : (0 : Int) ≤ (i : Int) := by omega
          have i2 : (i : Int) < (n : Int) := by omega
          have i3 : (0 : Int) ≤ (k : Int) := by omega
          have i4 : (k : Int) < (m : Int) := by omega
          have i5 : (0 : Int) < (nq : Int) := by omega
          have ZZ := Lib.hid (And.intro zx zy)
          have HB3 := Lib.hid hB3
          clear hx hy hs1 zx zy hB3
          go_upto_region 12 with fail
          refine wp_region_any (by kernel_rfl) ?_
          refine wpAny_inv (fun l a' w' => ∃ V : Nat → Value, ∃ x13 x14 : Value, a' = ⟨List.toArray (.slice (some ⟨b, fo, none⟩) n c :: .slice (some ⟨b2, fo2, none⟩) nq c2 :: undef :: undef :: .slice none 0 0 :: .int .i64 0 :: .int .i64 ↑nq :: .bool true :: .int .i64 ↑m :: .bool true :: .slice (some ⟨gO, 0, none⟩) n n :: .int .i64 ↑i :: .int .i64 ↑k :: x14 :: u14 :: .tuple #[.int .i64 ↑nq, .bool true] :: .slice (some ⟨b, fo, none⟩) n c :: .tuple #[.int .i64 ↑nq, .bool true] :: .int .i64 ↑nq :: .bool true :: .tuple #[.int .i64 ↑m, .bool true] :: .slice (some ⟨b2, fo2, none⟩) nq c2 :: .tuple #[.int .i64 ↑m, .bool true] :: .int .i64 ↑m :: .bool true :: .bool true :: .bool false :: .bool false :: .bool true :: .bool false :: .bool false :: .bool false :: .int .i64 ↑nq :: .slice (some ⟨b2, fo2, none⟩) nq c2 :: .int .i64 ↑nq :: .bool false :: .bool false :: .slice (some ⟨b, fo, none⟩) n c :: .int .i64 ↑n :: .slice (some ⟨gO, 0, none⟩) n n :: .slice (some ⟨gO, 0, none⟩) n n :: .int .i64 ↑n :: .int .i64 ↑i :: .bool true :: .int .i64 ↑i :: .int .i64 ↑m :: .int .i64 ↑k :: .bool true :: .int .i64 ↑k :: V 0 :: V 1 :: V 2 :: V 3 :: V 4 :: V 5 :: V 6 :: V 7 :: V 8 :: V 9 :: V 10 :: V 11 :: V 12 :: x13 :: u63 :: u64 :: u65 :: u66 :: u67 :: u68 :: u69 :: u70 :: u71 :: u72 :: u73 :: u74 :: u75 :: u76 :: u77 :: u78 :: u79 :: u80 :: u81 :: u82 :: u83 :: u84 :: u85 :: u86 :: u87 :: u88 :: u89 :: u90 :: u91 :: u92 :: u93 :: u94 :: u95 :: u96 :: u97 :: u98 :: undef :: []), []⟩ ∧ OnFix l V (fun zz => List.getD [.slice (some ⟨b, fo, none⟩) n c, .int .i64 i, .pointer (some ⟨b, fo + i, none⟩), .slice (some ⟨ga, 0, none⟩) nq Ka, .pointer (some ⟨ga, 0, none⟩), .agg #[.bool (sn (na x)), .slice A1 (ln (ab (na x))) (ln (ab (na x))), .bool (sn (nb x)), .slice A2 (ln (ab (nb x))) (ln (ab (nb x))), .slice A3 (ln (un x)) (ln (un x))], .iface 34 (.agg #[.bool (sn (na x)), .slice A1 (ln (ab (na x))) (ln (ab (na x))), .bool (sn (nb x)), .slice A2 (ln (ab (nb x))) (ln (ab (nb x))), .slice A3 (ln (un x)) (ln (un x))]), .slice (some ⟨b2, fo2, none⟩) nq c2, .pointer (some ⟨b2, fo2, none⟩), .slice (some ⟨gb, 0, none⟩) m Kb, .int .i64 k, .pointer (some ⟨gb, k * 5, none⟩), .agg #[.bool (sn (na y)), .slice B1 (ln (ab (na y))) (ln (ab (na y))), .bool (sn (nb y)), .slice B2 (ln (ab (nb y))) (ln (ab (nb y))), .slice B3 (ln (un y)) (ln (un y))], undef, undef, undef] zz undef) [0, 1, 2, 3, 4, 5, 6, 7, 8, 9, 10, 11, 12] ∧ Off l 15 (Below wr.heap.size wr w' ∧ On l 13 (SlotNum w' x13 (x.mul y)) ∧ On l 14 (AtV wr.heap.size w' x14)) ∧ On l 15 (∃ gs, x14 = .pointer (some ⟨gs, 0, none⟩) ∧ wr.heap.size ≤ gs ∧ HasP w' gs (x.mul y) ∧ Below wr.heap.size wr w') ∧ Edg l [(15, 13), (13, 6), (6, 5), (5, 4), (4, 3), (13, 12), (12, 11), (11, 9), (15, 14)] ∧ l.size = 16) ?_ ?_ _ _ _ _ (by decide) ?_
          · intro l a' W' i hi hI
            obtain ⟨V, x13, x14, rfl, hv, hZ, hM0, hE, hz⟩ := hI
            obtain ⟨hlt, hoff, hpre⟩ := ready_pre hi
            have hc : i ∈ [0, 1, 2, 3, 4, 5, 6, 7, 8, 9, 10, 11, 12, 13, 14, 15] := (by decide : ∀ i, i < 16 → i ∈ [0, 1, 2, 3, 4, 5, 6, 7, 8, 9, 10, 11, 12, 13, 14, 15]) i hlt
            simp only [List.mem_cons, List.not_mem_nil, or_false] at hc
            clear hi hlt
            rcases hc with rfl | rfl | rfl | rfl | rfl | rfl | rfl | rfl | rfl | rfl | rfl | rfl | rfl | rfl | rfl | rfl <;> (have hp := hpre _ rfl; simp [Region.binds] at hp; clear hpre)
            · skip
              have HV := Lib.hid hv
              clear hv
              refine wpOp_go rfl rfl (fun K hK => ?_)
              go_simp
              refine hK _ _ ?_
              exact ⟨_, _, _, rfl, HV.out.new (x := .slice (some ⟨b, fo, none⟩) n c) rfl, hZ.keep.map (fun ⟨hb0, y13, y14⟩ => ⟨hb0, y13.keep (by decide), y14.keep (by decide)⟩), hM0.keep (by decide), hE.mono (by decide), by simp [hz]⟩
            · skip
              have HV := Lib.hid hv
              clear hv
              refine wpOp_go rfl rfl (fun K hK => ?_)
              go_simp
              refine hK _ _ ?_
              exact ⟨_, _, _, rfl, HV.out.new (x := .int .i64 i) rfl, hZ.keep.map (fun ⟨hb0, y13, y14⟩ => ⟨hb0, y13.keep (by decide), y14.keep (by decide)⟩), hM0.keep (by decide), hE.mono (by decide), by simp [hz]⟩
            · skip
              have e0 : V 0 = .slice (some ⟨b, fo, none⟩) n c := hv.get 0 (by decide) (by simp [hp])
              have e1 : V 1 = .int .i64 i := hv.get 1 (by decide) (by simp [hp])
              have HV := Lib.hid ((hv.fixE e0 rfl).fixE e1 rfl)
              clear hv
              simp only [e0, e1]
              refine wpOp_go rfl rfl (fun K hK => ?_)
              go_simp
              refine hK _ _ ?_
              exact ⟨_, _, _, rfl, HV.out.new (x := .pointer (some ⟨b, fo + i, none⟩)) rfl, hZ.keep.map (fun ⟨hb0, y13, y14⟩ => ⟨hb0, y13.keep (by decide), y14.keep (by decide)⟩), hM0.keep (by decide), hE.mono (by decide), by simp [hz]⟩
            · skip
              have e2 : V 2 = .pointer (some ⟨b, fo + i, none⟩) := hv.get 2 (by decide) (by simp [hp])
              have HV := Lib.hid (hv.fixE e2 rfl)
              clear hv
              simp only [e2]
              have hY := hZ.get (fun h => off hoff (hE.get 4 3 (by decide) (hE.get 5 4 (by decide) (hE.get 6 5 (by decide) (hE.get 13 6 (by decide) (hE.get 15 13 (by decide) h))))))
              have z := keepc hY.1 ha2 ha1
              refine wpOp_go rfl rfl (fun K hK => ?_)
              go_simp
              refine hK _ _ ?_
              exact ⟨_, _, _, rfl, HV.out.new (x := .slice (some ⟨ga, 0, none⟩) nq Ka) rfl, hZ.keep.map (fun ⟨hb0, y13, y14⟩ => ⟨hb0, y13.keep (by decide), y14.keep (by decide)⟩), hM0.keep (by decide), hE.mono (by decide), by simp [hz]⟩
            · skip
              have e3 : V 3 = .slice (some ⟨ga, 0, none⟩) nq Ka := hv.get 3 (by decide) (by simp [hp])
              have HV := Lib.hid (hv.fixE e3 rfl)
              clear hv
              simp only [e3]
              refine wpOp_go rfl rfl (fun K hK => ?_)
              go_simp
              refine hK _ _ ?_
              exact ⟨_, _, _, rfl, HV.out.new (x := .pointer (some ⟨ga, 0, none⟩)) rfl, hZ.keep.map (fun ⟨hb0, y13, y14⟩ => ⟨hb0, y13.keep (by decide), y14.keep (by decide)⟩), hM0.keep (by decide), hE.step (by simp [hp]), by simp [hz]⟩
            · skip
              have e4 : V 4 = .pointer (some ⟨ga, 0, none⟩) := hv.get 4 (by decide) (by simp [hp])
              have HV := Lib.hid (hv.fixE e4 rfl)
              clear hv
              simp only [e4]
              have hY := hZ.get (fun h => off hoff (hE.get 6 5 (by decide) (hE.get 13 6 (by decide) (hE.get 15 13 (by decide) h))))
              obtain ⟨z0, z1, z2, z3, z4⟩ := ha4
              have y0 := keepc hY.1 z0 ha3; have y1 := keepc hY.1 z1 ha3; have y2 := keepc hY.1 z2 ha3; have y3 := keepc hY.1 z3 ha3; have y4 := keepc hY.1 z4 ha3
              refine wpOp_go rfl rfl (fun K hK => ?_)
              go_simp
              refine hK _ _ ?_
              exact ⟨_, _, _, rfl, HV.out.new (x := .agg #[.bool (sn (na x)), .slice A1 (ln (ab (na x))) (ln (ab (na x))), .bool (sn (nb x)), .slice A2 (ln (ab (nb x))) (ln (ab (nb x))), .slice A3 (ln (un x)) (ln (un x))]) rfl, hZ.keep.map (fun ⟨hb0, y13, y14⟩ => ⟨hb0, y13.keep (by decide), y14.keep (by decide)⟩), hM0.keep (by decide), hE.step (by simp [hp]), by simp [hz]⟩
            · skip
              have e5 : V 5 = .agg #[.bool (sn (na x)), .slice A1 (ln (ab (na x))) (ln (ab (na x))), .bool (sn (nb x)), .slice A2 (ln (ab (nb x))) (ln (ab (nb x))), .slice A3 (ln (un x)) (ln (un x))] := hv.get 5 (by decide) (by simp [hp])
              have HV := Lib.hid (hv.fixE e5 rfl)
              clear hv
              simp only [e5]
              refine wpOp_go rfl rfl (fun K hK => ?_)
              go_simp
              refine hK _ _ ?_
              exact ⟨_, _, _, rfl, HV.out.new (x := .iface 34 (.agg #[.bool (sn (na x)), .slice A1 (ln (ab (na x))) (ln (ab (na x))), .bool (sn (nb x)), .slice A2 (ln (ab (nb x))) (ln (ab (nb x))), .slice A3 (ln (un x)) (ln (un x))])) rfl, hZ.keep.map (fun ⟨hb0, y13, y14⟩ => ⟨hb0, y13.keep (by decide), y14.keep (by decide)⟩), hM0.keep (by decide), hE.step (by simp [hp]), by simp [hz]⟩
            · skip
              have HV := Lib.hid hv
              clear hv
              refine wpOp_go rfl rfl (fun K hK => ?_)
              go_simp
              refine hK _ _ ?_
              exact ⟨_, _, _, rfl, HV.out.new (x := .slice (some ⟨b2, fo2, none⟩) nq c2) rfl, hZ.keep.map (fun ⟨hb0, y13, y14⟩ => ⟨hb0, y13.keep (by decide), y14.keep (by decide)⟩), hM0.keep (by decide), hE.mono (by decide), by simp [hz]⟩
            · skip
              have e7 : V 7 = .slice (some ⟨b2, fo2, none⟩) nq c2 := hv.get 7 (by decide) (by simp [hp])
              have HV := Lib.hid (hv.fixE e7 rfl)
              clear hv
              simp only [e7]
              refine wpOp_go rfl rfl (fun K hK => ?_)
              go_simp
              refine hK _ _ ?_
              exact ⟨_, _, _, rfl, HV.out.new (x := .pointer (some ⟨b2, fo2, none⟩)) rfl, hZ.keep.map (fun ⟨hb0, y13, y14⟩ => ⟨hb0, y13.keep (by decide), y14.keep (by decide)⟩), hM0.keep (by decide), hE.mono (by decide), by simp [hz]⟩
            · skip
              have e8 : V 8 = .pointer (some ⟨b2, fo2, none⟩) := hv.get 8 (by decide) (by simp [hp])
              have HV := Lib.hid (hv.fixE e8 rfl)
              clear hv
              simp only [e8]
              have hY := hZ.get (fun h => off hoff (hE.get 11 9 (by decide) (hE.get 12 11 (by decide) (hE.get 13 12 (by decide) (hE.get 15 13 (by decide) h)))))
              have z := keepc hY.1 hb2 hb1
              refine wpOp_go rfl rfl (fun K hK => ?_)
              go_simp
              refine hK _ _ ?_
              exact ⟨_, _, _, rfl, HV.out.new (x := .slice (some ⟨gb, 0, none⟩) m Kb) rfl, hZ.keep.map (fun ⟨hb0, y13, y14⟩ => ⟨hb0, y13.keep (by decide), y14.keep (by decide)⟩), hM0.keep (by decide), hE.mono (by decide), by simp [hz]⟩
            · skip
              have HV := Lib.hid hv
              clear hv
              refine wpOp_go rfl rfl (fun K hK => ?_)
              go_simp
              refine hK _ _ ?_
              exact ⟨_, _, _, rfl, HV.out.new (x := .int .i64 k) rfl, hZ.keep.map (fun ⟨hb0, y13, y14⟩ => ⟨hb0, y13.keep (by decide), y14.keep (by decide)⟩), hM0.keep (by decide), hE.mono (by decide), by simp [hz]⟩
            · skip
              have e9 : V 9 = .slice (some ⟨gb, 0, none⟩) m Kb := hv.get 9 (by decide) (by simp [hp])
              have e10 : V 10 = .int .i64 k := hv.get 10 (by decide) (by simp [hp])
              have HV := Lib.hid ((hv.fixE e9 rfl).fixE e10 rfl)
              clear hv
              simp only [e9, e10]
              refine wpOp_go rfl rfl (fun K hK => ?_)
              go_simp
              refine hK _ _ ?_
              exact ⟨_, _, _, rfl, HV.out.new (x := .pointer (some ⟨gb, k * 5, none⟩)) rfl, hZ.keep.map (fun ⟨hb0, y13, y14⟩ => ⟨hb0, y13.keep (by decide), y14.keep (by decide)⟩), hM0.keep (by decide), hE.step (by simp [hp]), by simp [hz]⟩
            · skip
              have e11 : V 11 = .pointer (some ⟨gb, k * 5, none⟩) := hv.get 11 (by decide) (by simp [hp])
              have HV := Lib.hid (hv.fixE e11 rfl)
              clear hv
              simp only [e11]
              have hY := hZ.get (fun h => off hoff (hE.get 13 12 (by decide) (hE.get 15 13 (by decide) h)))
              obtain ⟨z0, z1, z2, z3, z4⟩ := hb4
              have y0 := keepc hY.1 z0 hb3; have y1 := keepc hY.1 z1 hb3; have y2 := keepc hY.1 z2 hb3; have y3 := keepc hY.1 z3 hb3; have y4 := keepc hY.1 z4 hb3
              refine wpOp_go rfl rfl (fun K hK => ?_)
              go_simp
              refine hK _ _ ?_
              exact ⟨_, _, _, rfl, HV.out.new (x := .agg #[.bool (sn (na y)), .slice B1 (ln (ab (na y))) (ln (ab (na y))), .bool (sn (nb y)), .slice B2 (ln (ab (nb y))) (ln (ab (nb y))), .slice B3 (ln (un y)) (ln (un y))]) rfl, hZ.keep.map (fun ⟨hb0, y13, y14⟩ => ⟨hb0, y13.keep (by decide), y14.keep (by decide)⟩), hM0.keep (by decide), hE.step (by simp [hp]), by simp [hz]⟩
            · skip
              have e6 : V 6 = .iface 34 (.agg #[.bool (sn (na x)), .slice A1 (ln (ab (na x))) (ln (ab (na x))), .bool (sn (nb x)), .slice A2 (ln (ab (nb x))) (ln (ab (nb x))), .slice A3 (ln (un x)) (ln (un x))]) := hv.get 6 (by decide) (by simp [hp])
              have e12 : V 12 = .agg #[.bool (sn (na y)), .slice B1 (ln (ab (na y))) (ln (ab (na y))), .bool (sn (nb y)), .slice B2 (ln (ab (nb y))) (ln (ab (nb y))), .slice B3 (ln (un y)) (ln (un y))] := hv.get 12 (by decide) (by simp [hp])
              have HV := Lib.hid ((hv.fixE e6 rfl).fixE e12 rfl)
              clear hv
              simp only [e6, e12]
              have hY := hZ.get (fun h => off hoff (hE.get 15 13 (by decide) h))
              refine wpOp_go rfl rfl (fun K hK => ?_)
              go_wp2_with (first | (go_at_call 10; refine (mul_num x y A1 A2 A3 B1 B2 B3 _ (ha5.to hY.1) (hb5.to hY.1) (ZZ.out.1.mono (by decide)) (ZZ.out.2.mono (by decide))).mono ?_; rintro e w3 ⟨E1, E2, E3, rfl, hN, hb⟩))
              try refine hK _ _ ?_
              exact ⟨_, _, _, rfl, HV.out.other (by decide), Off.new ⟨hY.1.trans (hb.mono hY.1.size), On.new (⟨E1, E2, E3, rfl, hN⟩), ((hY.2.2).keep (by decide)).map (fun h => h.to hb)⟩, fun h => absurd (hE.get 15 13 (by decide) (on_ne h (by decide))) (off hoff), hE.step (by simp [hp]), by simp [hz]⟩
            · skip
              have HV := Lib.hid hv
              clear hv
              have hY := hZ.get (fun h => off hoff (hE.get 15 14 (by decide) h))
              refine wpOp_go rfl rfl (fun K hK => ?_)
              go_simp
              refine hK _ _ ?_
              exact ⟨_, _, _, rfl, HV.out.other (by decide), Off.new ⟨hY.1.trans ((((Below.refl _ _).alloc (Nat.le_refl _) _)).mono hY.1.size), ((hY.2.1).keep (by decide)).map (fun h => h.to ((Below.refl _ _).alloc (Nat.le_refl _) _)), On.new (AtV.new hY.1.size)⟩, fun h => absurd (hE.get 15 14 (by decide) (on_ne h (by decide))) (off hoff), hE.mono (by decide), by simp [hz]⟩
            · skip
              have HV := Lib.hid hv
              clear hv
              have hY := hZ.get (off hoff)
              obtain ⟨E1, E2, E3, e1, hN⟩ := hY.2.1.get (by simp [hp])
              subst e1
              obtain ⟨gs, e2, hgs, hv5⟩ := hY.2.2.get (by simp [hp])
              subst e2
              have hv6 := hv5
              obtain ⟨_, ⟨cc, u1, u2, u3, u4, d0, d1, d2, d3, d4⟩, ⟨f0, f1, f2, f3, f4⟩⟩ := hv5
              refine wpOp_go rfl rfl (fun K hK => ?_)
              go_simp
              refine hK _ _ ?_
              obtain ⟨XX, hX⟩ : ∃ XX : World, XX = set5 W' gs (x.mul y) E1 E2 E3 := ⟨_, rfl⟩
              have hw : set5 W' gs (x.mul y) E1 E2 E3 = XX := hX.symm
              unfold set5 at hw
              rw [hw]
              subst hX
              exact ⟨_, _, _, rfl, HV.out.other (by decide), Off.done (by omega), On.new (⟨gs, rfl, hgs, hv6.putP hN, set5_below hY.1 hgs⟩), hE.step (by simp [hp]), by simp [hz]⟩
          · intro l a' W' hr hI
            obtain ⟨V, x13, x14, rfl, hv, hZ, hM0, hE, hz⟩ := hI
            have a0 := not_ready (i := 0) hr hz rfl (by simp [Region.binds])
            have a1 := not_ready (i := 1) hr hz rfl (by simp [Region.binds, a0])
            have a2 := not_ready (i := 2) hr hz rfl (by simp [Region.binds, a0, a1])
            have a3 := not_ready (i := 3) hr hz rfl (by simp [Region.binds, a0, a1, a2])
            have a4 := not_ready (i := 4) hr hz rfl (by simp [Region.binds, a0, a1, a2, a3])
            have a5 := not_ready (i := 5) hr hz rfl (by simp [Region.binds, a0, a1, a2, a3, a4])
            have a6 := not_ready (i := 6) hr hz rfl (by simp [Region.binds, a0, a1, a2, a3, a4, a5])
            have a7 := not_ready (i := 7) hr hz rfl (by simp [Region.binds, a0, a1, a2, a3, a4, a5, a6])
            have a8 := not_ready (i := 8) hr hz rfl (by simp [Region.binds, a0, a1, a2, a3, a4, a5, a6, a7])
            have a9 := not_ready (i := 9) hr hz rfl (by simp [Region.binds, a0, a1, a2, a3, a4, a5, a6, a7, a8])
            have a10 := not_ready (i := 10) hr hz rfl (by simp [Region.binds, a0, a1, a2, a3, a4, a5, a6, a7, a8, a9])
            have a11 := not_ready (i := 11) hr hz rfl (by simp [Region.binds, a0, a1, a2, a3, a4, a5, a6, a7, a8, a9, a10])
            have a12 := not_ready (i := 12) hr hz rfl (by simp [Region.binds, a0, a1, a2, a3, a4, a5, a6, a7, a8, a9, a10, a11])
            have a13 := not_ready (i := 13) hr hz rfl (by simp [Region.binds, a0, a1, a2, a3, a4, a5, a6, a7, a8, a9, a10, a11, a12])
            have a14 := not_ready (i := 14) hr hz rfl (by simp [Region.binds, a0, a1, a2, a3, a4, a5, a6, a7, a8, a9, a10, a11, a12, a13])
            have a15 := not_ready (i := 15) hr hz rfl (by simp [Region.binds, a0, a1, a2, a3, a4, a5, a6, a7, a8, a9, a10, a11, a12, a13, a14])
            have hY := hM0.get a15
            clear hr hz hv hZ a0 a1 a2 a3 a4 a5 a6 a7 a8 a9 a10 a11 a12 a13 a14 a15 hM0 hE
            go_wp2_with fail
            obtain ⟨gs, rfl, hgs, hvs, hbs⟩ := hY
            rw [← HS1.out] at hvs
            obtain ⟨Wb, hWb⟩ : ∃ W : World, W = wr := ⟨_, rfl⟩
            rw [← hWb] at HB3 hgs hbs
            clear ha1 ha2 ha3 ha4 ha5 hb1 hb2 hb3 hb4 hb5 hWb HS1 ZZ i5
            go_loopw [14] (fun q (wr : World) => ∃ j : Nat, 1 ≤ j ∧ j ≤ nq ∧ q = .int .i64 j ∧ HasP wr gs (dotC f g i k j) ∧ Below Wb.heap.size Wb wr) (fun q _ => nq - (intOf q).toNat)
            case atStart => exact ⟨1, Nat.le_refl _, hp0, rfl, hvs, hbs⟩
            case round =>
              obtain ⟨j, hj1, hj, rfl, hvj, hbj⟩ := hrel
              clear hvs hbs
              have hBw := HB3.out.fin.2
              have hbw : Below w2.heap.size w2 wr := hBw.trans (hbj.mono hBw.size)
              by_cases hlj : j < nq
              · obtain ⟨b', fo', ga', Ka', A1', A2', A3', eA, ha1, ha2, ha3, ha4, ha5⟩ := (HMA.out.to hbw).at hlt hlj (HNa.out i hlt)
                injection eA with eA; injection eA with eA1 eA2; subst eA1 eA2
                obtain ⟨b2', fo2', gb', Kb', B1', B2', B3', eB, hb1, hb2, hb3, hb4, hb5⟩ := (HMB.out.to hbw).at hlj hlk (HMb.out j hlj)
                injection eB with eB; injection eB with eB1 eB2; subst eB1 eB2
                obtain ⟨zx, zy, zs, zm⟩ := HS.out i k j hlt hlk hlj
                have hs1 : dotC f g i k (j + 1) = (dotC f g i k j).add ((f i j).mul (g j k)) := rfl
                obtain ⟨x', hx⟩ : ∃ x, x = f i j := ⟨_, rfl⟩
                obtain ⟨y', hy⟩ : ∃ y, y = g j k := ⟨_, rfl⟩
                obtain ⟨s, hs⟩ : ∃ s, s = dotC f g i k j := ⟨_, rfl⟩
                rw [← hx] at ha4 ha5 zx zm
                rw [← hy] at hb4 hb5 zy zm
                rw [← hs] at hvj zs
                rw [← hs, ← hx, ← hy] at hs1
                have HS1 := Lib.hid hs1
                have ZZ := Lib.hid (And.intro zs zm)
                have Z2 := Lib.hid (And.intro zx zy)
                have j1 : (0 : Int) ≤ (j : Int) := by omega
                have j2 : (j : Int) < (nq : Int) := by omega
                obtain ⟨S1, S2, S3, hsc, hsn⟩ := hvj.slot
                have hls := hvj.1
                have HBJ := Lib.hid hbj
                clear hx hy hs hs1 zx zy zs zm hbw hBw hbj
                go_upto_region 16 with fail
                refine wp_region_any (by kernel_rfl) ?_
                refine wpAny_inv (fun l a' w' => ∃ V2 : Nat → Value, ∃ x17 x18 : Value, a' = ⟨List.toArray (.slice (some ⟨b, fo, none⟩) n c :: .slice (some ⟨b2, fo2, none⟩) nq c2 :: undef :: undef :: .slice none 0 0 :: .int .i64 0 :: .int .i64 ↑nq :: .bool true :: .int .i64 ↑m :: .bool true :: .slice (some ⟨gO, 0, none⟩) n n :: .int .i64 ↑i :: .int .i64 ↑k :: .pointer (some ⟨gs, 0, none⟩) :: .int .i64 ↑j :: .tuple #[.int .i64 ↑nq, .bool true] :: .slice (some ⟨b, fo, none⟩) n c :: .tuple #[.int .i64 ↑nq, .bool true] :: .int .i64 ↑nq :: .bool true :: .tuple #[.int .i64 ↑m, .bool true] :: .slice (some ⟨b2, fo2, none⟩) nq c2 :: .tuple #[.int .i64 ↑m, .bool true] :: .int .i64 ↑m :: .bool true :: .bool true :: .bool false :: .bool false :: .bool true :: .bool false :: .bool false :: .bool false :: .int .i64 ↑nq :: .slice (some ⟨b2, fo2, none⟩) nq c2 :: .int .i64 ↑nq :: .bool false :: .bool false :: .slice (some ⟨b, fo, none⟩) n c :: .int .i64 ↑n :: .slice (some ⟨gO, 0, none⟩) n n :: .slice (some ⟨gO, 0, none⟩) n n :: .int .i64 ↑n :: .int .i64 ↑i :: .bool true :: .int .i64 ↑i :: .int .i64 ↑m :: .int .i64 ↑k :: .bool true :: .int .i64 ↑k :: V 0 :: V 1 :: V 2 :: V 3 :: V 4 :: V 5 :: V 6 :: V 7 :: V 8 :: V 9 :: V 10 :: V 11 :: V 12 :: x13 :: .int .i64 ↑j :: .int .i64 ↑nq :: .bool true :: u66 :: u67 :: V2 0 :: V2 1 :: V2 2 :: V2 3 :: V2 4 :: V2 5 :: V2 6 :: V2 7 :: V2 8 :: V2 9 :: V2 10 :: V2 11 :: V2 12 :: V2 13 :: V2 14 :: V2 15 :: V2 16 :: x17 :: x18 :: u87 :: u88 :: u89 :: u90 :: u91 :: u92 :: u93 :: u94 :: u95 :: u96 :: u97 :: u98 :: undef :: []), []⟩ ∧ OnFix l V2 (fun zz => List.getD [.agg #[.bool (sn (na s)), .slice S1 (ln (ab (na s))) (ln (ab (na s))), .bool (sn (nb s)), .slice S2 (ln (ab (nb s))) (ln (ab (nb s))), .slice S3 (ln (un s)) (ln (un s))], .iface 34 (.agg #[.bool (sn (na s)), .slice S1 (ln (ab (na s))) (ln (ab (na s))), .bool (sn (nb s)), .slice S2 (ln (ab (nb s))) (ln (ab (nb s))), .slice S3 (ln (un s)) (ln (un s))]), .slice (some ⟨b, fo, none⟩) n c, .int .i64 i, .pointer (some ⟨b, fo + i, none⟩), .slice (some ⟨ga', 0, none⟩) nq Ka', .int .i64 j, .pointer (some ⟨ga', j * 5, none⟩), .agg #[.bool (sn (na x')), .slice A1' (ln (ab (na x'))) (ln (ab (na x'))), .bool (sn (nb x')), .slice A2' (ln (ab (nb x'))) (ln (ab (nb x'))), .slice A3' (ln (un x')) (ln (un x'))], .iface 34 (.agg #[.bool (sn (na x')), .slice A1' (ln (ab (na x'))) (ln (ab (na x'))), .bool (sn (nb x')), .slice A2' (ln (ab (nb x'))) (ln (ab (nb x'))), .slice A3' (ln (un x')) (ln (un x'))]), .slice (some ⟨b2, fo2, none⟩) nq c2, .int .i64 j, .pointer (some ⟨b2, fo2 + j, none⟩), .slice (some ⟨gb', 0, none⟩) m Kb', .int .i64 k, .pointer (some ⟨gb', k * 5, none⟩), .agg #[.bool (sn (na y')), .slice B1' (ln (ab (na y'))) (ln (ab (na y'))), .bool (sn (nb y')), .slice B2' (ln (ab (nb y'))) (ln (ab (nb y'))), .slice B3' (ln (un y')) (ln (un y'))], undef, undef, undef] zz undef) [0, 1, 2, 3, 4, 5, 6, 7, 8, 9, 10, 11, 12, 13, 14, 15, 16] ∧ Off l 19 (Below wr.heap.size wr w' ∧ On l 17 (SlotNum w' x17 (x'.mul y')) ∧ On l 18 (SlotNum w' x18 (s.add (x'.mul y')))) ∧ On l 19 (HasP w' gs (s.add (x'.mul y')) ∧ Below Wb.heap.size Wb w') ∧ Edg l [(19, 18), (18, 1), (1, 0), (18, 17), (17, 9), (9, 8), (8, 7), (7, 5), (17, 16), (16, 15), (15, 13)] ∧ l.size = 20) ?_ ?_ _ _ _ _ (by decide) ?_
                · intro l a' W' i hi hI
                  obtain ⟨V2, x17, x18, rfl, hv, hZ, hM0, hE, hz⟩ := hI
                  obtain ⟨hlt, hoff, hpre⟩ := ready_pre hi
                  have hc : i ∈ [0, 1, 2, 3, 4, 5, 6, 7, 8, 9, 10, 11, 12, 13, 14, 15, 16, 17, 18, 19] := (by decide : ∀ i, i < 20 → i ∈ [0, 1, 2, 3, 4, 5, 6, 7, 8, 9, 10, 11, 12, 13, 14, 15, 16, 17, 18, 19]) i hlt
                  simp only [List.mem_cons, List.not_mem_nil, or_false] at hc
                  clear hi hlt
                  rcases hc with rfl | rfl | rfl | rfl | rfl | rfl | rfl | rfl | rfl | rfl | rfl | rfl | rfl | rfl | rfl | rfl | rfl | rfl | rfl | rfl <;> (have hp := hpre _ rfl; simp [Region.binds] at hp; clear hpre)
                  · skip
                    have HV := Lib.hid hv
                    clear hv
                    have hY := hZ.get (fun h => off hoff (hE.get 1 0 (by decide) (hE.get 18 1 (by decide) (hE.get 19 18 (by decide) h))))
                    obtain ⟨z0, z1, z2, z3, z4⟩ := hsc
                    have y0 := keepc hY.1 z0 hls; have y1 := keepc hY.1 z1 hls; have y2 := keepc hY.1 z2 hls; have y3 := keepc hY.1 z3 hls; have y4 := keepc hY.1 z4 hls
                    refine wpOp_go rfl rfl (fun K hK => ?_)
                    go_simp
                    refine hK _ _ ?_
                    exact ⟨_, _, _, rfl, HV.out.new (x := .agg #[.bool (sn (na s)), .slice S1 (ln (ab (na s))) (ln (ab (na s))), .bool (sn (nb s)), .slice S2 (ln (ab (nb s))) (ln (ab (nb s))), .slice S3 (ln (un s)) (ln (un s))]) rfl, hZ.keep.map (fun ⟨hb0, y17, y18⟩ => ⟨hb0, y17.keep (by decide), y18.keep (by decide)⟩), hM0.keep (by decide), hE.mono (by decide), by simp [hz]⟩
                  · skip
                    have e0 : V2 0 = .agg #[.bool (sn (na s)), .slice S1 (ln (ab (na s))) (ln (ab (na s))), .bool (sn (nb s)), .slice S2 (ln (ab (nb s))) (ln (ab (nb s))), .slice S3 (ln (un s)) (ln (un s))] := hv.get 0 (by decide) (by simp [hp])
                    have HV := Lib.hid (hv.fixE e0 rfl)
                    clear hv
                    simp only [e0]
                    refine wpOp_go rfl rfl (fun K hK => ?_)
                    go_simp
                    refine hK _ _ ?_
                    exact ⟨_, _, _, rfl, HV.out.new (x := .iface 34 (.agg #[.bool (sn (na s)), .slice S1 (ln (ab (na s))) (ln (ab (na s))), .bool (sn (nb s)), .slice S2 (ln (ab (nb s))) (ln (ab (nb s))), .slice S3 (ln (un s)) (ln (un s))])) rfl, hZ.keep.map (fun ⟨hb0, y17, y18⟩ => ⟨hb0, y17.keep (by decide), y18.keep (by decide)⟩), hM0.keep (by decide), hE.step (by simp [hp]), by simp [hz]⟩
                  · skip
                    have HV := Lib.hid hv
                    clear hv
                    refine wpOp_go rfl rfl (fun K hK => ?_)
                    go_simp
                    refine hK _ _ ?_
                    exact ⟨_, _, _, rfl, HV.out.new (x := .slice (some ⟨b, fo, none⟩) n c) rfl, hZ.keep.map (fun ⟨hb0, y17, y18⟩ => ⟨hb0, y17.keep (by decide), y18.keep (by decide)⟩), hM0.keep (by decide), hE.mono (by decide), by simp [hz]⟩
                  · skip
                    have HV := Lib.hid hv
                    clear hv
                    refine wpOp_go rfl rfl (fun K hK => ?_)
                    go_simp
                    refine hK _ _ ?_
                    exact ⟨_, _, _, rfl, HV.out.new (x := .int .i64 i) rfl, hZ.keep.map (fun ⟨hb0, y17, y18⟩ => ⟨hb0, y17.keep (by decide), y18.keep (by decide)⟩), hM0.keep (by decide), hE.mono (by decide), by simp [hz]⟩
                  · skip
                    have e2 : V2 2 = .slice (some ⟨b, fo, none⟩) n c := hv.get 2 (by decide) (by simp [hp])
                    have e3 : V2 3 = .int .i64 i := hv.get 3 (by decide) (by simp [hp])
                    have HV := Lib.hid ((hv.fixE e2 rfl).fixE e3 rfl)
                    clear hv
                    simp only [e2, e3]
                    refine wpOp_go rfl rfl (fun K hK => ?_)
                    go_simp
                    refine hK _ _ ?_
                    exact ⟨_, _, _, rfl, HV.out.new (x := .pointer (some ⟨b, fo + i, none⟩)) rfl, hZ.keep.map (fun ⟨hb0, y17, y18⟩ => ⟨hb0, y17.keep (by decide), y18.keep (by decide)⟩), hM0.keep (by decide), hE.mono (by decide), by simp [hz]⟩
                  · skip
                    have e4 : V2 4 = .pointer (some ⟨b, fo + i, none⟩) := hv.get 4 (by decide) (by simp [hp])
                    have HV := Lib.hid (hv.fixE e4 rfl)
                    clear hv
                    simp only [e4]
                    have hY := hZ.get (fun h => off hoff (hE.get 7 5 (by decide) (hE.get 8 7 (by decide) (hE.get 9 8 (by decide) (hE.get 17 9 (by decide) (hE.get 18 17 (by decide) (hE.get 19 18 (by decide) h)))))))
                    have z := keepc hY.1 ha2 ha1
                    refine wpOp_go rfl rfl (fun K hK => ?_)
                    go_simp
                    refine hK _ _ ?_
                    exact ⟨_, _, _, rfl, HV.out.new (x := .slice (some ⟨ga', 0, none⟩) nq Ka') rfl, hZ.keep.map (fun ⟨hb0, y17, y18⟩ => ⟨hb0, y17.keep (by decide), y18.keep (by decide)⟩), hM0.keep (by decide), hE.mono (by decide), by simp [hz]⟩
                  · skip
                    have HV := Lib.hid hv
                    clear hv
                    refine wpOp_go rfl rfl (fun K hK => ?_)
                    go_simp
                    refine hK _ _ ?_
                    exact ⟨_, _, _, rfl, HV.out.new (x := .int .i64 j) rfl, hZ.keep.map (fun ⟨hb0, y17, y18⟩ => ⟨hb0, y17.keep (by decide), y18.keep (by decide)⟩), hM0.keep (by decide), hE.mono (by decide), by simp [hz]⟩
                  · skip
                    have e5 : V2 5 = .slice (some ⟨ga', 0, none⟩) nq Ka' := hv.get 5 (by decide) (by simp [hp])
                    have e6 : V2 6 = .int .i64 j := hv.get 6 (by decide) (by simp [hp])
                    have HV := Lib.hid ((hv.fixE e5 rfl).fixE e6 rfl)
                    clear hv
                    simp only [e5, e6]
                    refine wpOp_go rfl rfl (fun K hK => ?_)
                    go_simp
                    refine hK _ _ ?_
                    exact ⟨_, _, _, rfl, HV.out.new (x := .pointer (some ⟨ga', j * 5, none⟩)) rfl, hZ.keep.map (fun ⟨hb0, y17, y18⟩ => ⟨hb0, y17.keep (by decide), y18.keep (by decide)⟩), hM0.keep (by decide), hE.step (by simp [hp]), by simp [hz]⟩
                  · skip
                    have e7 : V2 7 = .pointer (some ⟨ga', j * 5, none⟩) := hv.get 7 (by decide) (by simp [hp])
                    have HV := Lib.hid (hv.fixE e7 rfl)
                    clear hv
                    simp only [e7]
                    have hY := hZ.get (fun h => off hoff (hE.get 9 8 (by decide) (hE.get 17 9 (by decide) (hE.get 18 17 (by decide) (hE.get 19 18 (by decide) h)))))
                    obtain ⟨z0, z1, z2, z3, z4⟩ := ha4
                    have y0 := keepc hY.1 z0 ha3; have y1 := keepc hY.1 z1 ha3; have y2 := keepc hY.1 z2 ha3; have y3 := keepc hY.1 z3 ha3; have y4 := keepc hY.1 z4 ha3
                    refine wpOp_go rfl rfl (fun K hK => ?_)
                    go_simp
                    refine hK _ _ ?_
                    exact ⟨_, _, _, rfl, HV.out.new (x := .agg #[.bool (sn (na x')), .slice A1' (ln (ab (na x'))) (ln (ab (na x'))), .bool (sn (nb x')), .slice A2' (ln (ab (nb x'))) (ln (ab (nb x'))), .slice A3' (ln (un x')) (ln (un x'))]) rfl, hZ.keep.map (fun ⟨hb0, y17, y18⟩ => ⟨hb0, y17.keep (by decide), y18.keep (by decide)⟩), hM0.keep (by decide), hE.step (by simp [hp]), by simp [hz]⟩
                  · skip
                    have e8 : V2 8 = .agg #[.bool (sn (na x')), .slice A1' (ln (ab (na x'))) (ln (ab (na x'))), .bool (sn (nb x')), .slice A2' (ln (ab (nb x'))) (ln (ab (nb x'))), .slice A3' (ln (un x')) (ln (un x'))] := hv.get 8 (by decide) (by simp [hp])
                    have HV := Lib.hid (hv.fixE e8 rfl)
                    clear hv
                    simp only [e8]
                    refine wpOp_go rfl rfl (fun K hK => ?_)
                    go_simp
                    refine hK _ _ ?_
                    exact ⟨_, _, _, rfl, HV.out.new (x := .iface 34 (.agg #[.bool (sn (na x')), .slice A1' (ln (ab (na x'))) (ln (ab (na x'))), .bool (sn (nb x')), .slice A2' (ln (ab (nb x'))) (ln (ab (nb x'))), .slice A3' (ln (un x')) (ln (un x'))])) rfl, hZ.keep.map (fun ⟨hb0, y17, y18⟩ => ⟨hb0, y17.keep (by decide), y18.keep (by decide)⟩), hM0.keep (by decide), hE.step (by simp [hp]), by simp [hz]⟩
                  · skip
                    have HV := Lib.hid hv
                    clear hv
                    refine wpOp_go rfl rfl (fun K hK => ?_)
                    go_simp
                    refine hK _ _ ?_
                    exact ⟨_, _, _, rfl, HV.out.new (x := .slice (some ⟨b2, fo2, none⟩) nq c2) rfl, hZ.keep.map (fun ⟨hb0, y17, y18⟩ => ⟨hb0, y17.keep (by decide), y18.keep (by decide)⟩), hM0.keep (by decide), hE.mono (by decide), by simp [hz]⟩
                  · skip
                    have HV := Lib.hid hv
                    clear hv
                    refine wpOp_go rfl rfl (fun K hK => ?_)
                    go_simp
                    refine hK _ _ ?_
                    exact ⟨_, _, _, rfl, HV.out.new (x := .int .i64 j) rfl, hZ.keep.map (fun ⟨hb0, y17, y18⟩ => ⟨hb0, y17.keep (by decide), y18.keep (by decide)⟩), hM0.keep (by decide), hE.mono (by decide), by simp [hz]⟩
                  · skip
                    have e10 : V2 10 = .slice (some ⟨b2, fo2, none⟩) nq c2 := hv.get 10 (by decide) (by simp [hp])
                    have e11 : V2 11 = .int .i64 j := hv.get 11 (by decide) (by simp [hp])
                    have HV := Lib.hid ((hv.fixE e10 rfl).fixE e11 rfl)
                    clear hv
                    simp only [e10, e11]
                    refine wpOp_go rfl rfl (fun K hK => ?_)
                    go_simp
                    refine hK _ _ ?_
                    exact ⟨_, _, _, rfl, HV.out.new (x := .pointer (some ⟨b2, fo2 + j, none⟩)) rfl, hZ.keep.map (fun ⟨hb0, y17, y18⟩ => ⟨hb0, y17.keep (by decide), y18.keep (by decide)⟩), hM0.keep (by decide), hE.mono (by decide), by simp [hz]⟩
                  · skip
                    have e12 : V2 12 = .pointer (some ⟨b2, fo2 + j, none⟩) := hv.get 12 (by decide) (by simp [hp])
                    have HV := Lib.hid (hv.fixE e12 rfl)
                    clear hv
                    simp only [e12]
                    have hY := hZ.get (fun h => off hoff (hE.get 15 13 (by decide) (hE.get 16 15 (by decide) (hE.get 17 16 (by decide) (hE.get 18 17 (by decide) (hE.get 19 18 (by decide) h))))))
                    have z := keepc hY.1 hb2 hb1
                    refine wpOp_go rfl rfl (fun K hK => ?_)
                    go_simp
                    refine hK _ _ ?_
                    exact ⟨_, _, _, rfl, HV.out.new (x := .slice (some ⟨gb', 0, none⟩) m Kb') rfl, hZ.keep.map (fun ⟨hb0, y17, y18⟩ => ⟨hb0, y17.keep (by decide), y18.keep (by decide)⟩), hM0.keep (by decide), hE.mono (by decide), by simp [hz]⟩
                  · skip
                    have HV := Lib.hid hv
                    clear hv
                    refine wpOp_go rfl rfl (fun K hK => ?_)
                    go_simp
                    refine hK _ _ ?_
                    exact ⟨_, _, _, rfl, HV.out.new (x := .int .i64 k) rfl, hZ.keep.map (fun ⟨hb0, y17, y18⟩ => ⟨hb0, y17.keep (by decide), y18.keep (by decide)⟩), hM0.keep (by decide), hE.mono (by decide), by simp [hz]⟩
                  · skip
                    have e13 : V2 13 = .slice (some ⟨gb', 0, none⟩) m Kb' := hv.get 13 (by decide) (by simp [hp])
                    have e14 : V2 14 = .int .i64 k := hv.get 14 (by decide) (by simp [hp])
                    have HV := Lib.hid ((hv.fixE e13 rfl).fixE e14 rfl)
                    clear hv
                    simp only [e13, e14]
                    refine wpOp_go rfl rfl (fun K hK => ?_)
                    go_simp
                    refine hK _ _ ?_
                    exact ⟨_, _, _, rfl, HV.out.new (x := .pointer (some ⟨gb', k * 5, none⟩)) rfl, hZ.keep.map (fun ⟨hb0, y17, y18⟩ => ⟨hb0, y17.keep (by decide), y18.keep (by decide)⟩), hM0.keep (by decide), hE.step (by simp [hp]), by simp [hz]⟩
                  · skip
                    have e15 : V2 15 = .pointer (some ⟨gb', k * 5, none⟩) := hv.get 15 (by decide) (by simp [hp])
                    have HV := Lib.hid (hv.fixE e15 rfl)
                    clear hv
                    simp only [e15]
                    have hY := hZ.get (fun h => off hoff (hE.get 17 16 (by decide) (hE.get 18 17 (by decide) (hE.get 19 18 (by decide) h))))
                    obtain ⟨z0, z1, z2, z3, z4⟩ := hb4
                    have y0 := keepc hY.1 z0 hb3; have y1 := keepc hY.1 z1 hb3; have y2 := keepc hY.1 z2 hb3; have y3 := keepc hY.1 z3 hb3; have y4 := keepc hY.1 z4 hb3
                    refine wpOp_go rfl rfl (fun K hK => ?_)
                    go_simp
                    refine hK _ _ ?_
                    exact ⟨_, _, _, rfl, HV.out.new (x := .agg #[.bool (sn (na y')), .slice B1' (ln (ab (na y'))) (ln (ab (na y'))), .bool (sn (nb y')), .slice B2' (ln (ab (nb y'))) (ln (ab (nb y'))), .slice B3' (ln (un y')) (ln (un y'))]) rfl, hZ.keep.map (fun ⟨hb0, y17, y18⟩ => ⟨hb0, y17.keep (by decide), y18.keep (by decide)⟩), hM0.keep (by decide), hE.step (by simp [hp]), by simp [hz]⟩
                  · skip
                    have e9 : V2 9 = .iface 34 (.agg #[.bool (sn (na x')), .slice A1' (ln (ab (na x'))) (ln (ab (na x'))), .bool (sn (nb x')), .slice A2' (ln (ab (nb x'))) (ln (ab (nb x'))), .slice A3' (ln (un x')) (ln (un x'))]) := hv.get 9 (by decide) (by simp [hp])
                    have e16 : V2 16 = .agg #[.bool (sn (na y')), .slice B1' (ln (ab (na y'))) (ln (ab (na y'))), .bool (sn (nb y')), .slice B2' (ln (ab (nb y'))) (ln (ab (nb y'))), .slice B3' (ln (un y')) (ln (un y'))] := hv.get 16 (by decide) (by simp [hp])
                    have HV := Lib.hid ((hv.fixE e9 rfl).fixE e16 rfl)
                    clear hv
                    simp only [e9, e16]
                    have hY := hZ.get (fun h => off hoff (hE.get 18 17 (by decide) (hE.get 19 18 (by decide) h)))
                    refine wpOp_go rfl rfl (fun K hK => ?_)
                    go_wp2_with (first | (go_at_call 10; refine (mul_num x' y' A1' A2' A3' B1' B2' B3' _ (ha5.to hY.1) (hb5.to hY.1) (Z2.out.1.mono (by decide)) (Z2.out.2.mono (by decide))).mono ?_; rintro e w3 ⟨E1, E2, E3, rfl, hN, hb⟩))
                    try refine hK _ _ ?_
                    exact ⟨_, _, _, rfl, HV.out.other (by decide), Off.new ⟨hY.1.trans (hb.mono hY.1.size), On.new (⟨E1, E2, E3, rfl, hN⟩), ((hY.2.2).keep (by decide)).map (fun h => h.to hb)⟩, fun h => absurd (hE.get 18 17 (by decide) (hE.get 19 18 (by decide) (on_ne h (by decide)))) (off hoff), hE.step (by simp [hp]), by simp [hz]⟩
                  · skip
                    have e1 : V2 1 = .iface 34 (.agg #[.bool (sn (na s)), .slice S1 (ln (ab (na s))) (ln (ab (na s))), .bool (sn (nb s)), .slice S2 (ln (ab (nb s))) (ln (ab (nb s))), .slice S3 (ln (un s)) (ln (un s))]) := hv.get 1 (by decide) (by simp [hp])
                    have HV := Lib.hid (hv.fixE e1 rfl)
                    clear hv
                    simp only [e1]
                    have hY := hZ.get (fun h => off hoff (hE.get 19 18 (by decide) h))
                    obtain ⟨G1, G2, G3, e0, hM⟩ := hY.2.1.get (by simp [hp])
                    subst e0
                    refine wpOp_go rfl rfl (fun K hK => ?_)
                    go_wp2_with (first | (go_at_call 22; refine (add_num s (x'.mul y') S1 S2 S3 G1 G2 G3 _ (hsn.to hY.1) hM (ZZ.out.1.mono (by decide)) (ZZ.out.2.mono (by decide))).mono ?_; rintro e w3 ⟨E1, E2, E3, rfl, hN, hb⟩))
                    try refine hK _ _ ?_
                    exact ⟨_, _, _, rfl, HV.out.other (by decide), Off.new ⟨hY.1.trans (hb.mono hY.1.size), ((hY.2.1).keep (by decide)).map (fun h => h.to hb), On.new (⟨E1, E2, E3, rfl, hN⟩)⟩, fun h => absurd (hE.get 19 18 (by decide) (on_ne h (by decide))) (off hoff), hE.step (by simp [hp]), by simp [hz]⟩
                  · skip
                    have HV := Lib.hid hv
                    clear hv
                    have hY := hZ.get (off hoff)
                    obtain ⟨E1, E2, E3, e1, hN⟩ := hY.2.2.get (by simp [hp])
                    subst e1
                    have hv6 := (hvj.to hY.1).var
                    have hv5 := hv6
                    obtain ⟨_, ⟨cc, u1, u2, u3, u4, d0, d1, d2, d3, d4⟩, ⟨f0, f1, f2, f3, f4⟩⟩ := hv5
                    refine wpOp_go rfl rfl (fun K hK => ?_)
                    go_simp
                    refine hK _ _ ?_
                    obtain ⟨XX, hX⟩ : ∃ XX : World, XX = set5 W' gs (s.add (x'.mul y')) E1 E2 E3 := ⟨_, rfl⟩
                    have hw : set5 W' gs (s.add (x'.mul y')) E1 E2 E3 = XX := hX.symm
                    unfold set5 at hw
                    rw [hw]
                    subst hX
                    exact ⟨_, _, _, rfl, HV.out.other (by decide), Off.done (by omega), On.new (⟨hv6.putP hN, set5_below (HBJ.out.trans (hY.1.mono HBJ.out.size)) hgs⟩), hE.step (by simp [hp]), by simp [hz]⟩
                · intro l a' W' hr hI
                  obtain ⟨V2, x17, x18, rfl, hv, hZ, hM0, hE, hz⟩ := hI
                  have a0 := not_ready (i := 0) hr hz rfl (by simp [Region.binds])
                  have a1 := not_ready (i := 1) hr hz rfl (by simp [Region.binds, a0])
                  have a2 := not_ready (i := 2) hr hz rfl (by simp [Region.binds, a0, a1])
                  have a3 := not_ready (i := 3) hr hz rfl (by simp [Region.binds, a0, a1, a2])
                  have a4 := not_ready (i := 4) hr hz rfl (by simp [Region.binds, a0, a1, a2, a3])
                  have a5 := not_ready (i := 5) hr hz rfl (by simp [Region.binds, a0, a1, a2, a3, a4])
                  have a6 := not_ready (i := 6) hr hz rfl (by simp [Region.binds, a0, a1, a2, a3, a4, a5])
                  have a7 := not_ready (i := 7) hr hz rfl (by simp [Region.binds, a0, a1, a2, a3, a4, a5, a6])
                  have a8 := not_ready (i := 8) hr hz rfl (by simp [Region.binds, a0, a1, a2, a3, a4, a5, a6, a7])
                  have a9 := not_ready (i := 9) hr hz rfl (by simp [Region.binds, a0, a1, a2, a3, a4, a5, a6, a7, a8])
                  have a10 := not_ready (i := 10) hr hz rfl (by simp [Region.binds, a0, a1, a2, a3, a4, a5, a6, a7, a8, a9])
                  have a11 := not_ready (i := 11) hr hz rfl (by simp [Region.binds, a0, a1, a2, a3, a4, a5, a6, a7, a8, a9, a10])
                  have a12 := not_ready (i := 12) hr hz rfl (by simp [Region.binds, a0, a1, a2, a3, a4, a5, a6, a7, a8, a9, a10, a11])
                  have a13 := not_ready (i := 13) hr hz rfl (by simp [Region.binds, a0, a1, a2, a3, a4, a5, a6, a7, a8, a9, a10, a11, a12])
                  have a14 := not_ready (i := 14) hr hz rfl (by simp [Region.binds, a0, a1, a2, a3, a4, a5, a6, a7, a8, a9, a10, a11, a12, a13])
                  have a15 := not_ready (i := 15) hr hz rfl (by simp [Region.binds, a0, a1, a2, a3, a4, a5, a6, a7, a8, a9, a10, a11, a12, a13, a14])
                  have a16 := not_ready (i := 16) hr hz rfl (by simp [Region.binds, a0, a1, a2, a3, a4, a5, a6, a7, a8, a9, a10, a11, a12, a13, a14, a15])
                  have a17 := not_ready (i := 17) hr hz rfl (by simp [Region.binds, a0, a1, a2, a3, a4, a5, a6, a7, a8, a9, a10, a11, a12, a13, a14, a15, a16])
                  have a18 := not_ready (i := 18) hr hz rfl (by simp [Region.binds, a0, a1, a2, a3, a4, a5, a6, a7, a8, a9, a10, a11, a12, a13, a14, a15, a16, a17])
                  have a19 := not_ready (i := 19) hr hz rfl (by simp [Region.binds, a0, a1, a2, a3, a4, a5, a6, a7, a8, a9, a10, a11, a12, a13, a14, a15, a16, a17, a18])
                  have hY := hM0.get a19
                  clear hr hz hv hZ a0 a1 a2 a3 a4 a5 a6 a7 a8 a9 a10 a11 a12 a13 a14 a15 a16 a17 a18 a19 hM0 hE
                  rw [← HS1.out] at hY
                  go_wp2_with fail
                  go_roundw
                  case rel => exact ⟨j + 1, by omega, by omega, by go_num, hY.1, hY.2⟩
                  case measure => simp [intOf]; omega
                · exact ⟨fun zz => List.getD [u68, u69, u70, u71, u72, u73, u74, u75, u76, u77, u78, u79, u80, u81, u82, u83, u84, u85, u86, undef] zz undef, _, _, rfl, OnFix.start, Off.new ⟨((Below.refl _ _).drew), fun h => absurd h (by decide), fun h => absurd h (by decide)⟩, fun h => absurd h (by decide), Edg.start, by simp⟩
              · obtain rfl : j = nq := by omega
                obtain ⟨S1, S2, S3, hsc, hsn⟩ := hvj.slot
                have hls := hvj.1
                obtain ⟨v1, hv1, hv2, hpush⟩ := HB3.out.push hlt (by simp; omega)
                have hLk : F i ((fun x => if x < i then m else if x = i then k else 0) i) = dotC f g i k j := by simp [HF.out]
                have HLK := Lib.hid hLk
                replace hv1 := keepc hbj hv1 hv2
                replace hv2 := Nat.lt_of_lt_of_le hv2 hbj.size
                obtain ⟨s, hs⟩ : ∃ s, s = dotC f g i k j := ⟨_, rfl⟩
                rw [← hs] at hsc hsn HLK
                have HBJ := Lib.hid hbj
                clear hs hbw hBw hvj hbj hLk
                go_upto_region 17 with fail
                refine wp_region_any (by kernel_rfl) ?_
                refine wpAny_inv (fun l a' w' => ∃ V3 : Nat → Value, ∃ x7 x8 : Value, a' = ⟨List.toArray (.slice (some ⟨b, fo, none⟩) n c :: .slice (some ⟨b2, fo2, none⟩) j c2 :: undef :: undef :: .slice none 0 0 :: .int .i64 0 :: .int .i64 ↑j :: .bool true :: .int .i64 ↑m :: .bool true :: .slice (some ⟨gO, 0, none⟩) n n :: .int .i64 ↑i :: .int .i64 ↑k :: .pointer (some ⟨gs, 0, none⟩) :: .int .i64 ↑j :: .tuple #[.int .i64 ↑j, .bool true] :: .slice (some ⟨b, fo, none⟩) n c :: .tuple #[.int .i64 ↑j, .bool true] :: .int .i64 ↑j :: .bool true :: .tuple #[.int .i64 ↑m, .bool true] :: .slice (some ⟨b2, fo2, none⟩) j c2 :: .tuple #[.int .i64 ↑m, .bool true] :: .int .i64 ↑m :: .bool true :: .bool true :: .bool false :: .bool false :: .bool true :: .bool false :: .bool false :: .bool false :: .int .i64 ↑j :: .slice (some ⟨b2, fo2, none⟩) j c2 :: .int .i64 ↑j :: .bool false :: .bool false :: .slice (some ⟨b, fo, none⟩) n c :: .int .i64 ↑n :: .slice (some ⟨gO, 0, none⟩) n n :: .slice (some ⟨gO, 0, none⟩) n n :: .int .i64 ↑n :: .int .i64 ↑i :: .bool true :: .int .i64 ↑i :: .int .i64 ↑m :: .int .i64 ↑k :: .bool true :: .int .i64 ↑k :: V 0 :: V 1 :: V 2 :: V 3 :: V 4 :: V 5 :: V 6 :: V 7 :: V 8 :: V 9 :: V 10 :: V 11 :: V 12 :: x13 :: .int .i64 ↑j :: .int .i64 ↑j :: .bool false :: u66 :: u67 :: u68 :: u69 :: u70 :: u71 :: u72 :: u73 :: u74 :: u75 :: u76 :: u77 :: u78 :: u79 :: u80 :: u81 :: u82 :: u83 :: u84 :: u85 :: u86 :: V3 0 :: V3 1 :: V3 2 :: V3 3 :: V3 4 :: V3 5 :: V3 6 :: x7 :: x8 :: V3 9 :: u97 :: u98 :: undef :: []), []⟩ ∧ OnFix l V3 (fun zz => List.getD [.slice (some ⟨gO, 0, none⟩) n n, .int .i64 i, .slice (some ⟨gO, 0, none⟩) n n, .int .i64 i, .pointer (some ⟨gO, i, none⟩), v1, .agg #[.bool (sn (na s)), .slice S1 (ln (ab (na s))) (ln (ab (na s))), .bool (sn (nb s)), .slice S2 (ln (ab (nb s))) (ln (ab (nb s))), .slice S3 (ln (un s)) (ln (un s))], undef, undef, .pointer (some ⟨gO, i, none⟩), undef] zz undef) [0, 1, 2, 3, 4, 5, 6, 9] ∧ Off l 8 (Below wr.heap.size wr w' ∧ On l 7 (BoxN wr.heap.size w' x7 s)) ∧ On l 8 (Off l 10 (MidP w2 gO n i (fun x => if x < i then m else if x = i then k else 0) F x8 w')) ∧ On l 10 (BldP w2 gO n (more (fun x => if x < i then m else if x = i then k else 0) i) F w') ∧ Edg l [(8, 5), (8, 7), (7, 6), (10, 8)] ∧ l.size = 11) ?_ ?_ _ _ _ _ (by decide) ?_
                · intro l a' W' i hi hI
                  obtain ⟨V3, x7, x8, rfl, hv, hZ, hM0, hM1, hE, hz⟩ := hI
                  obtain ⟨hlt, hoff, hpre⟩ := ready_pre hi
                  have hc : i ∈ [0, 1, 2, 3, 4, 5, 6, 7, 8, 9, 10] := (by decide : ∀ i, i < 11 → i ∈ [0, 1, 2, 3, 4, 5, 6, 7, 8, 9, 10]) i hlt
                  simp only [List.mem_cons, List.not_mem_nil, or_false] at hc
                  clear hi hlt
                  rcases hc with rfl | rfl | rfl | rfl | rfl | rfl | rfl | rfl | rfl | rfl | rfl <;> (have hp := hpre _ rfl; simp [Region.binds] at hp; clear hpre)
                  · skip
                    have HV := Lib.hid hv
                    clear hv
                    refine wpOp_go rfl rfl (fun K hK => ?_)
                    go_simp
                    refine hK _ _ ?_
                    exact ⟨_, _, _, rfl, HV.out.new (x := .slice (some ⟨gO, 0, none⟩) n n) rfl, hZ.keep.map (fun ⟨hb0, y7⟩ => ⟨hb0, y7.keep (by decide)⟩), (hM0.keep (by decide)).map Off.keep, hM1.keep (by decide), hE.mono (by decide), by simp [hz]⟩
                  · skip
                    have HV := Lib.hid hv
                    clear hv
                    refine wpOp_go rfl rfl (fun K hK => ?_)
                    go_simp
                    refine hK _ _ ?_
                    exact ⟨_, _, _, rfl, HV.out.new (x := .int .i64 i) rfl, hZ.keep.map (fun ⟨hb0, y7⟩ => ⟨hb0, y7.keep (by decide)⟩), (hM0.keep (by decide)).map Off.keep, hM1.keep (by decide), hE.mono (by decide), by simp [hz]⟩
                  · skip
                    have HV := Lib.hid hv
                    clear hv
                    refine wpOp_go rfl rfl (fun K hK => ?_)
                    go_simp
                    refine hK _ _ ?_
                    exact ⟨_, _, _, rfl, HV.out.new (x := .slice (some ⟨gO, 0, none⟩) n n) rfl, hZ.keep.map (fun ⟨hb0, y7⟩ => ⟨hb0, y7.keep (by decide)⟩), (hM0.keep (by decide)).map Off.keep, hM1.keep (by decide), hE.mono (by decide), by simp [hz]⟩
                  · skip
                    have HV := Lib.hid hv
                    clear hv
                    refine wpOp_go rfl rfl (fun K hK => ?_)
                    go_simp
                    refine hK _ _ ?_
                    exact ⟨_, _, _, rfl, HV.out.new (x := .int .i64 i) rfl, hZ.keep.map (fun ⟨hb0, y7⟩ => ⟨hb0, y7.keep (by decide)⟩), (hM0.keep (by decide)).map Off.keep, hM1.keep (by decide), hE.mono (by decide), by simp [hz]⟩
                  · skip
                    have e2 : V3 2 = .slice (some ⟨gO, 0, none⟩) n n := hv.get 2 (by decide) (by simp [hp])
                    have e3 : V3 3 = .int .i64 i := hv.get 3 (by decide) (by simp [hp])
                    have HV := Lib.hid ((hv.fixE e2 rfl).fixE e3 rfl)
                    clear hv
                    simp only [e2, e3]
                    refine wpOp_go rfl rfl (fun K hK => ?_)
                    go_simp
                    refine hK _ _ ?_
                    exact ⟨_, _, _, rfl, HV.out.new (x := .pointer (some ⟨gO, i, none⟩)) rfl, hZ.keep.map (fun ⟨hb0, y7⟩ => ⟨hb0, y7.keep (by decide)⟩), (hM0.keep (by decide)).map Off.keep, hM1.keep (by decide), hE.mono (by decide), by simp [hz]⟩
                  · skip
                    have e4 : V3 4 = .pointer (some ⟨gO, i, none⟩) := hv.get 4 (by decide) (by simp [hp])
                    have HV := Lib.hid (hv.fixE e4 rfl)
                    clear hv
                    simp only [e4]
                    have hY := hZ.get (fun h => off hoff (hE.get 8 5 (by decide) h))
                    have z := keepc hY.1 hv1 hv2
                    refine wpOp_go rfl rfl (fun K hK => ?_)
                    go_simp
                    refine hK _ _ ?_
                    exact ⟨_, _, _, rfl, HV.out.new (x := v1) rfl, hZ.keep.map (fun ⟨hb0, y7⟩ => ⟨hb0, y7.keep (by decide)⟩), (hM0.keep (by decide)).map Off.keep, hM1.keep (by decide), hE.mono (by decide), by simp [hz]⟩
                  · skip
                    have HV := Lib.hid hv
                    clear hv
                    have hY := hZ.get (fun h => off hoff (hE.get 7 6 (by decide) (hE.get 8 7 (by decide) h)))
                    obtain ⟨z0, z1, z2, z3, z4⟩ := hsc
                    have y0 := keepc hY.1 z0 hls; have y1 := keepc hY.1 z1 hls; have y2 := keepc hY.1 z2 hls; have y3 := keepc hY.1 z3 hls; have y4 := keepc hY.1 z4 hls
                    refine wpOp_go rfl rfl (fun K hK => ?_)
                    go_simp
                    refine hK _ _ ?_
                    exact ⟨_, _, _, rfl, HV.out.new (x := .agg #[.bool (sn (na s)), .slice S1 (ln (ab (na s))) (ln (ab (na s))), .bool (sn (nb s)), .slice S2 (ln (ab (nb s))) (ln (ab (nb s))), .slice S3 (ln (un s)) (ln (un s))]) rfl, hZ.keep.map (fun ⟨hb0, y7⟩ => ⟨hb0, y7.keep (by decide)⟩), (hM0.keep (by decide)).map Off.keep, hM1.keep (by decide), hE.mono (by decide), by simp [hz]⟩
                  · skip
                    have e6 : V3 6 = .agg #[.bool (sn (na s)), .slice S1 (ln (ab (na s))) (ln (ab (na s))), .bool (sn (nb s)), .slice S2 (ln (ab (nb s))) (ln (ab (nb s))), .slice S3 (ln (un s)) (ln (un s))] := hv.get 6 (by decide) (by simp [hp])
                    have HV := Lib.hid (hv.fixE e6 rfl)
                    clear hv
                    simp only [e6]
                    have hY := hZ.get (fun h => off hoff (hE.get 8 7 (by decide) h))
                    refine wpOp_go rfl rfl (fun K hK => ?_)
                    go_simp
                    refine hK _ _ ?_
                    exact ⟨_, _, _, rfl, HV.out.other (by decide), Off.new ⟨hY.1.trans ((((Below.refl _ _).alloc (Nat.le_refl _) _)).mono hY.1.size), On.new (BoxN.new (hsn.to hY.1) hY.1.size)⟩, fun h => absurd (hE.get 8 7 (by decide) (on_ne h (by decide))) (off hoff), fun h => absurd (hE.get 8 7 (by decide) (hE.get 10 8 (by decide) (on_ne h (by decide)))) (off hoff), hE.step (by simp [hp]), by simp [hz]⟩
                  · skip
                    have e5 : V3 5 = v1 := hv.get 5 (by decide) (by simp [hp])
                    have HV := Lib.hid (hv.fixE e5 rfl)
                    clear hv
                    simp only [e5]
                    have hY := hZ.get (off hoff)
                    obtain ⟨bb, e0, hpe, hbb⟩ := hY.2.get (by simp [hp])
                    subst e0
                    obtain ⟨v', w3, er, m1, m2, m3, m4⟩ := hpush W' bb (HBJ.out.trans (hY.1.mono HBJ.out.size)) (Nat.le_trans HBJ.out.size hbb) (by rw [HLK.out]; exact hpe)
                    refine wpOp_go rfl rfl (fun K hK => ?_)
                    refine wp_append_run rfl rfl rfl er ?_
                    go_simp
                    refine hK _ _ ?_
                    exact ⟨_, _, _, rfl, HV.out.other (by decide), Off.done (by omega), On.new (Off.new (⟨m1, m2, m3, m4⟩)), fun h => absurd (hE.get 10 8 (by decide) (on_ne h (by decide))) (off hoff), hE.step (by simp [hp]), by simp [hz]⟩
                  · skip
                    have e0 : V3 0 = .slice (some ⟨gO, 0, none⟩) n n := hv.get 0 (by decide) (by simp [hp])
                    have e1 : V3 1 = .int .i64 i := hv.get 1 (by decide) (by simp [hp])
                    have HV := Lib.hid ((hv.fixE e0 rfl).fixE e1 rfl)
                    clear hv
                    simp only [e0, e1]
                    refine wpOp_go rfl rfl (fun K hK => ?_)
                    go_simp
                    refine hK _ _ ?_
                    exact ⟨_, _, _, rfl, HV.out.new (x := .pointer (some ⟨gO, i, none⟩)) rfl, hZ.keep.map (fun ⟨hb0, y7⟩ => ⟨hb0, y7.keep (by decide)⟩), (hM0.keep (by decide)).map Off.keep, hM1.keep (by decide), hE.mono (by decide), by simp [hz]⟩
                  · skip
                    have e9 : V3 9 = .pointer (some ⟨gO, i, none⟩) := hv.get 9 (by decide) (by simp [hp])
                    have HV := Lib.hid (hv.fixE e9 rfl)
                    clear hv
                    simp only [e9]
                    have hY := (hM0.get (by simp [hp])).get (off hoff)
                    obtain ⟨⟨v0, m1⟩, m2, ⟨S, sa, sb, m3⟩, m4⟩ := hY
                    subst m3
                    refine wpOp_go rfl rfl (fun K hK => ?_)
                    go_simp
                    refine hK _ _ ?_
                    exact ⟨_, _, _, rfl, HV.out.other (by decide), fun h => absurd (on_mono (by simp [hp])) h, (hM0.keep (by decide)).map (fun _ => Off.done (by omega)), On.new (m4), hE.step (by simp [hp]), by simp [hz]⟩
                · intro l a' W' hr hI
                  obtain ⟨V3, x7, x8, rfl, hv, hZ, hM0, hM1, hE, hz⟩ := hI
                  have a0 := not_ready (i := 0) hr hz rfl (by simp [Region.binds])
                  have a1 := not_ready (i := 1) hr hz rfl (by simp [Region.binds, a0])
                  have a2 := not_ready (i := 2) hr hz rfl (by simp [Region.binds, a0, a1])
                  have a3 := not_ready (i := 3) hr hz rfl (by simp [Region.binds, a0, a1, a2])
                  have a4 := not_ready (i := 4) hr hz rfl (by simp [Region.binds, a0, a1, a2, a3])
                  have a5 := not_ready (i := 5) hr hz rfl (by simp [Region.binds, a0, a1, a2, a3, a4])
                  have a6 := not_ready (i := 6) hr hz rfl (by simp [Region.binds, a0, a1, a2, a3, a4, a5])
                  have a7 := not_ready (i := 7) hr hz rfl (by simp [Region.binds, a0, a1, a2, a3, a4, a5, a6])
                  have a8 := not_ready (i := 8) hr hz rfl (by simp [Region.binds, a0, a1, a2, a3, a4, a5, a6, a7])
                  have a9 := not_ready (i := 9) hr hz rfl (by simp [Region.binds, a0, a1, a2, a3, a4, a5, a6, a7, a8])
                  have a10 := not_ready (i := 10) hr hz rfl (by simp [Region.binds, a0, a1, a2, a3, a4, a5, a6, a7, a8, a9])
                  have hY := hM1.get a10
                  clear hr hz hv hZ a0 a1 a2 a3 a4 a5 a6 a7 a8 a9 a10 hM0 hM1 hE
                  go_wp2_with fail
                  go_roundw
                  case rel => exact ⟨k + 1, by omega, by go_num, by rw [← step_len (fun _ => m)]; exact hY⟩
                  case measure => simp [intOf]; omega
                · exact ⟨fun zz => List.getD [u87, u88, u89, u90, u91, u92, u93, u94, u95, u96, undef] zz undef, _, _, rfl, OnFix.start, Off.new ⟨((Below.refl _ _).drew), fun h => absurd h (by decide)⟩, fun h => absurd h (by decide), fun h => absurd h (by decide), Edg.start, by simp⟩
          · exact ⟨fun zz => List.getD [u49, u50, u51, u52, u53, u54, u55, u56, u57, u58, u59, u60, u61, u62, u13, undef] zz undef, _, _, rfl, OnFix.start, Off.new ⟨((Below.refl _ _).drew), fun h => absurd h (by decide), fun h => absurd h (by decide)⟩, fun h => absurd h (by decide), Edg.start, by simp⟩
        · obtain rfl : k = m := by omega
          go_wp2_with fail
          go_roundw
          case rel => exact ⟨i + 1, by omega, by go_num, by rw [next_len (fun _ => k)]; exact hB3⟩
          case measure => simp [intOf]; omega
    · obtain rfl : i = n := by omega
      go_wp2_with fail
      obtain ⟨h1, h2⟩ := hB.done
      exact bodyPost_ret (v := .tuple #[.slice (some ⟨gO, 0, none⟩) i i, .int .i64 0]) (by simp [results, Try.results7, go_sem]) rfl ⟨_, _, rfl, h1, HB.out.trans (h2.mono HB.out.size)⟩
end Go.Proofs.Ytdpjknjlhchmcaa

namespace Go.Proofs.Ytdpjknjlhchmcaa
open Go.RowKit Pl
set_option linter.unusedVariables false
set_option linter.unusedSimpArgs false
/-- A slot holds a number and no error. -/
def SlotNumE (w : World) (u : Value) (q : Cx) : Prop := ∃ A1 A2 A3, u = .tuple #[.agg #[.bool (sn (na q)), .slice A1 (ln (ab (na q))) (ln (ab (na q))), .bool (sn (nb q)), .slice A2 (ln (ab (nb q))) (ln (ab (nb q))), .slice A3 (ln (un q)) (ln (un q))], .int .i64 0] ∧ Num3 w A1 A2 A3 q
theorem SlotNumE.to {w w' : World} {u : Value} {q : Cx} (h : SlotNumE w u q) (hb : Below w.heap.size w w') : SlotNumE w' u q := by
  obtain ⟨A1, A2, A3, e, n⟩ := h; exact ⟨A1, A2, A3, e, n.to hb⟩
theorem HasP.set5o {w : World} {g p o : Nat} {q r : Cx} {A1 A2 A3 : Option Addr} {c : Bool} (h : HasP w g r) (hn : g ≠ p) (k : w.cell? ⟨p, 0, none⟩ = some (.bool c)) : HasP (set5o w p o q A1 A2 A3) g r := by
  obtain ⟨l, ⟨B1, B2, B3, ⟨c0, c1, c2, c3, c4⟩, n⟩, ⟨f0, f1, f2, f3, f4⟩⟩ := h
  refine ⟨by rw [set5o_size]; exact l, ⟨B1, B2, B3, ⟨set5o_cell c0 (.inl hn), set5o_cell c1 (.inl hn), set5o_cell c2 (.inl hn), set5o_cell c3 (.inl hn), set5o_cell c4 (.inl hn)⟩, set5o_num3 n k⟩, ?_⟩
  unfold Proofs.Ytdpjknjlhchmcaa.set5o
  exact ⟨keepof (keepof (keepof (keepof (keepof f0)))), keepof (keepof (keepof (keepof (keepof f1)))), keepof (keepof (keepof (keepof (keepof f2)))), keepof (keepof (keepof (keepof (keepof f3)))), keepof (keepof (keepof (keepof (keepof f4))))⟩
end Go.Proofs.Ytdpjknjlhchmcaa

namespace Go.Proofs.Ytdpjknjlhchmcaa
open Go.RowKit Pl
set_option linter.unusedVariables false
set_option linter.unusedSimpArgs false
/-- A slot holds a Boolean. -/
def SlotB (w : World) (u : Value) (b : Bool) : Prop := u = .bool b
theorem SlotB.to {w w' : World} {u : Value} {b : Bool} (h : SlotB w u b) (hb : Below w.heap.size w w') : SlotB w' u b := h
theorem MatP.congN {w : World} {A : Option Addr} {n : Nat} {N M : Nat → Nat} {f : Nat → Nat → Cx} (h : MatP w A n N f) (e : ∀ i, i < n → N i = M i) : MatP w A n M f := by
  obtain ⟨R, K, h1, h2⟩ := h
  exact ⟨R, K, fun i hi => by rw [← e i hi]; exact h1 i hi, fun i hi j hj => h2 i hi j (by rw [e i hi]; exact hj)⟩
theorem square_any (w : World) (A : Option Addr) (n c : Nat) (N : Nat → Nat) (f : Nat → Nat → Cx) (hM : MatP w A n N f) (hn : n ≤ 1000) (hN : ∀ i, i < n → N i ≤ 1000) (ok : Bool) (hok : ok = true ↔ (Valid n N ∧ colN n N = n)) :
    Calls Try.prog 26 #[.slice A n c] w (RetBool w ok) := by
  obtain ⟨R, K, hG, _⟩ := hM
  obtain ⟨v, hv⟩ := bool_iff (Valid n N)
  have HC := columns_any w A n c R N K hG hn hN v hv
  obtain ⟨m, hm⟩ : ∃ m, m = colN n N := ⟨_, rfl⟩
  have hm2 : m ≤ 1000 := by rw [hm]; exact col_le hN
  rw [← hv, ← hm] at hok
  rw [← hm] at HC
  have HOK := Lib.hid hok
  clear hG hn hN hv hm hok
  go_enter Try.func26, Try.ntmps26
  go_wp2_with fail
  refine HC.mono ?_
  rintro e w1 ⟨rfl, hb⟩
  cases v with
  | false =>
    have e1 : ok = false := by
      cases ok with
      | false => rfl
      | true => exact absurd (HOK.out.1 rfl).1 (by decide)
    go_wp2_with fail
    go_ret
    exact ⟨by rw [e1]; rfl, hb⟩
  | true =>
    by_cases h : m = n
    · have t : ((m : Int) == (n : Int)) = true := by rw [beq_iff_eq]; omega
      have e1 : ok = true := HOK.out.2 ⟨rfl, h⟩
      clear h
      go_wp2_with fail
      go_ret
      exact ⟨by rw [e1]; rfl, hb⟩
    · have t : ((m : Int) == (n : Int)) = false := by rw [beq_eq_false_iff_ne]; omega
      have e1 : ok = false := by
        cases ok with
        | false => rfl
        | true => exact absurd (HOK.out.1 rfl).2 h
      clear h
      go_wp2_with fail
      go_ret
      exact ⟨by rw [e1]; rfl, hb⟩
end Go.Proofs.Ytdpjknjlhchmcaa

namespace Go.Proofs.Ytdpjknjlhchmcaa
open Go.RowKit Pl
set_option linter.unusedVariables false
set_option linter.unusedSimpArgs false
theorem MatP.none (w : World) (N : Nat → Nat) (f : Nat → Nat → Cx) : MatP w none 0 N f := ⟨fun _ => .none, fun _ => 0, fun i hi => absurd hi (Nat.not_lt_zero _), fun i hi => absurd hi (Nat.not_lt_zero _)⟩
theorem MatP.drop {w : World} {b fo n t : Nat} {N : Nat → Nat} {f : Nat → Nat → Cx} (h : MatP w (some ⟨b, fo, .none⟩) n N f) : MatP w (some ⟨b, fo + t, .none⟩) (n - t) (fun i => N (t + i)) (fun i => f (t + i)) := by
  obtain ⟨R, K, h1, h2⟩ := h
  refine ⟨fun i => R (t + i), fun i => K (t + i), fun i hi => ?_, fun i hi j hj => h2 (t + i) (by omega) j hj⟩
  obtain ⟨b', fo', e, hl, hc⟩ := h1 (t + i) (by omega)
  injection e with e; injection e with e1 e2; subst e1 e2
  exact ⟨b, fo + t, rfl, hl, by rw [Nat.add_assoc]; exact hc⟩
theorem hasP_new {w : World} {q : Cx} {A1 A2 A3 : Option Addr} {T : TypeId} (n : Num3 w A1 A2 A3 q) : HasP (w.alloc (.cells #[.bool (sn (na q)), .slice A1 (ln (ab (na q))) (ln (ab (na q))), .bool (sn (nb q)), .slice A2 (ln (ab (nb q))) (ln (ab (nb q))), .slice A3 (ln (un q)) (ln (un q))] T)) w.heap.size q :=
  ⟨by simp, ⟨A1, A2, A3, ⟨by go_simp, by go_simp, by go_simp, by go_simp, by go_simp⟩, num3_alloc n⟩, by go_simp, by go_simp, by go_simp, by go_simp, by go_simp⟩
theorem Var5.cells {w : World} {g : Nat} (h : Var5 w g) : (∃ c v1 v2 v3 v4, C5 w g (.bool c) v1 v2 v3 v4) ∧ Froz w g := by
  obtain ⟨_, ⟨c, v1, v2, v3, v4, c0, c1, c2, c3, c4⟩, f⟩ := h; exact ⟨⟨c, v1, v2, v3, v4, c0, c1, c2, c3, c4⟩, f⟩
end Go.Proofs.Ytdpjknjlhchmcaa

namespace Go.Proofs.Ytdpjknjlhchmcaa
open Go.RowKit Pl
set_option linter.unusedVariables false
set_option linter.unusedSimpArgs false
theorem run_copy5 (w : World) (dT sT ty elem : TypeId) (g o dLen dCap : Nat) (a : Addr) (sLen sCap m : Nat) (cur : Array Value) (t : TypeId) (cs : List Value)
    (hu : Try.prog.underlying dT = some (.slice elem)) (hs : (Try.prog.info? elem).map (·.size) = some 5)
    (hg : w.heap[g]? = some (.cells cur t (0, 0))) (hm : Nat.min sLen dLen = m) (hn : cs.length = m * 5)
    (hsrc : ∀ j v, cs[j]? = some v → w.cell? (a.add j) = some v) (hfit : o + cs.length ≤ cur.size) (h1 : ∀ v ∈ cs, v.oneCell' = true) :
    (Builtin.copy_ #[dT, sT] ty #[.slice (some ⟨g, o, none⟩) dLen dCap, .slice (some a) sLen sCap]).run Try.prog w =
      .ok (goInt m) (w.setRow g (cur.toList.take o ++ cs ++ cur.toList.drop (o + cs.length)).toArray) := by
  have hl := run_loadCells_list (P := Try.prog) w a cs hsrc
  have hst := run_storeCells_at Try.prog g o t cs 0 cur w hg (by simpa using hfit) h1
  cases hq : Try.prog.info? elem with
  | none => simp [hq] at hs
  | some i =>
    have hi : i.size = 5 := by simpa [hq] using hs
    simp [Builtin.copy_, run_underlying hu, Builtin.lenOf, Builtin.firstCells, sizeOf, typeInfo, hq, hi, hm, ← hn, hl, hst]
/-- 'copy', by what it is known to do. -/
theorem wp_copy_run5 {P : Program} {o : Oper} {a : Act} {w w' : World} {K : Act → World → Prop} {Q : Exit → Act → World → Prop} {s x : Operand} {t : TypeId} {v1 v2 v' : Value}
    (ho : o.op = .call { callee := .builtin .copy, args := #[s, x], argTypes := #[t, t] }) (hs : a.eval s = v1) (hx : a.eval x = v2) (hr : (Builtin.copy_ #[t, t] o.type #[v1, v2]).run P w = .ok v' w') (h : K (a.put o.dst v') w') : o.wp P a w K Q := by
  unfold Oper.wp execOp
  simp only [ho, resolve, invoke, builtin, Sem.run_bind, Sem.run_pure, Result.andThen_ok, List.map_toArray, List.map_cons, List.map_nil, hs, hx, hr]
  exact h
/-- The first n elements of a block of c elements hold the five values. -/
def Rep5 (w : World) (g c n : Nat) (vs : List Value) : Prop := ∃ cur : Array Value, w.heap[g]? = some (.cells cur 34 (0, 0)) ∧ cur.size = c * 5 ∧ ∀ k j, k < n → j < 5 → cur[k * 5 + j]? = vs[j]?
theorem Rep5.grow {w : World} {g c n m : Nat} {vs : List Value} {cur : Array Value} (hg : w.heap[g]? = some (.cells cur 34 (0, 0))) (hc : cur.size = c * 5) (hk : ∀ k j, k < n → j < 5 → cur[k * 5 + j]? = vs[j]?) (cs : List Value) (hcs : cs.length = m * 5) (hm : ∀ k j, k < m → j < 5 → cs[k * 5 + j]? = vs[j]?) (hnm : n + m ≤ c) :
    Rep5 (w.setRow g (cur.toList.take (n * 5) ++ cs ++ cur.toList.drop (n * 5 + cs.length)).toArray) g c (n + m) vs := by
  refine ⟨_, setRow_heap w g cur _ 34 (0, 0) hg, ?_, fun k j hk2 hj => ?_⟩
  · simp [hcs, hc]; omega
  · have hl : (cur.toList.take (n * 5)).length = n * 5 := by simp [hc]; omega
    by_cases e : k < n
    · rw [List.getElem?_toArray, List.append_assoc, List.getElem?_append_left (by omega), List.getElem?_take_of_lt (by omega), Array.getElem?_toList]
      exact hk k j e hj
    · rw [List.getElem?_toArray, List.append_assoc, List.getElem?_append_right (by omega), hl, List.getElem?_append_left (by omega)]
      have := hm (k - n) j (by omega) hj
      rw [← this]
      congr 1
      omega
theorem Rep5.to {w w' : World} {g c n : Nat} {vs : List Value} (h : Rep5 w g c n vs) (hb : Below w.heap.size w w') : Rep5 w' g c n vs := by
  obtain ⟨cur, h1, h2, h3⟩ := h
  have hl : g < w.heap.size := by
    by_cases h : g < w.heap.size
    · exact h
    · rw [Array.getElem?_eq_none (by omega)] at h1; cases h1
  exact ⟨cur, (hb.block g hl).trans h1, h2, h3⟩
theorem below_setRow {B g : Nat} {a w : World} {cs : Array Value} (h : Below B a w) (hg : B ≤ g) : Below B a (w.setRow g cs) := by
  refine ⟨h.os, h.tape, h.output, by simpa [World.setRow] using h.size, fun k hk => ?_⟩
  have e : k ≠ g := by omega
  rw [← h.block k hk]
  simp [World.setRow, Array.getElem?_modify, Ne.symm e]
theorem bits_mul1 (c : Nat) (hc : c ≤ 1000) (w : World) : Calls Try.prog 68 #[.int .u64 1, .int .u64 c] w fun e w' => e = .returned (.tuple #[.int .u64 0, .int .u64 c]) ∧ w' = w := by
  refine (Try.bits_Mul 1 c (by omega) (by omega) w).mono ?_
  rintro e w' ⟨rfl, rfl⟩
  refine ⟨?_, rfl⟩
  rw [Nat.one_mul, show c / 18446744073709551616 = 0 by omega, show c % 18446744073709551616 = c by omega]
  rfl
theorem copy_rep {w : World} {g c k mn : Nat} {vs : List Value} {q : Cx} {A1 A2 A3 : Option Addr} {cur : Array Value} (hg : w.heap[g]? = some (.cells cur 34 (0, 0))) (hsz : cur.size = c * 5) (hcur : ∀ a j, a < k → j < 5 → cur[a * 5 + j]? = vs[j]?)
    (hv : vs = [.bool (sn (na q)), .slice A1 (ln (ab (na q))) (ln (ab (na q))), .bool (sn (nb q)), .slice A2 (ln (ab (nb q))) (ln (ab (nb q))), .slice A3 (ln (un q)) (ln (un q))]) (hmn : mn = Nat.min k (c - k)) (h1 : 1 ≤ mn) (hk1 : 1 ≤ k) (hlt : k < c) :
    ∃ W' : World, (Builtin.copy_ #[42, 42] 3 #[.slice (some ⟨g, k * 5, none⟩) (c - k) (c - k), .slice (some ⟨g, 0, none⟩) k c]).run Try.prog w = .ok (.int .i64 mn) W' ∧ Rep5 W' g c (k + mn) vs ∧ ∀ (B : Nat) (a : World), Below B a w → B ≤ g → Below B a W' := by
  have h2 : mn ≤ k ∧ mn ≤ c - k := by rw [hmn]; show min k (c - k) ≤ k ∧ min k (c - k) ≤ c - k; omega
  have hl : (cur.toList.take (mn * 5)).length = mn * 5 := by simp [hsz]; omega
  obtain ⟨ti, ki, kz, ks, kb⟩ := info_parts Try.info_num
  have hs5 : (Try.prog.info? 34).map (·.size) = some 5 := by rw [ki]; simp [ks]
  have hcs : ∀ a j, a < mn → j < 5 → (cur.toList.take (mn * 5))[a * 5 + j]? = vs[j]? := fun a j ha hj => by
    rw [List.getElem?_take_of_lt (by omega), Array.getElem?_toList]; exact hcur a j (by omega) hj
  refine ⟨_, ?_, Rep5.grow hg hsz hcur _ hl hcs (by omega), fun B a h1 h2 => below_setRow h1 h2⟩
  refine run_copy5 w 42 42 3 34 g (k * 5) (c - k) (c - k) ⟨g, 0, none⟩ k c mn cur 34 _ Try.und_nums hs5 hg hmn.symm hl (fun j v hj => ?_) (by rw [hl, hsz]; omega) (fun v hv2 => ?_)
  · rw [add_none j rfl, Nat.zero_add]
    have hj2 : j < mn * 5 := by
      rw [← hl]; exact (List.getElem?_eq_some_iff.1 hj).1
    rw [List.getElem?_take_of_lt hj2, Array.getElem?_toList] at hj
    simp [World.cell?, hg, hj]
  · obtain ⟨j, hj, rfl⟩ := List.getElem_of_mem hv2
    have hj2 : j < mn * 5 := by rw [← hl]; exact hj
    have e := hcs (j / 5) (j % 5) (by omega) (by omega)
    rw [show j / 5 * 5 + j % 5 = j by omega, List.getElem?_eq_getElem hj] at e
    have : j % 5 = 0 ∨ j % 5 = 1 ∨ j % 5 = 2 ∨ j % 5 = 3 ∨ j % 5 = 4 := by omega
    rw [hv] at e
    rcases this with h | h | h | h | h <;> (rw [h] at e; simp only [List.getElem?_cons_zero, List.getElem?_cons_succ, Option.some.injEq] at e; rw [e]; rfl)
theorem Rep5.lt {w : World} {g c n : Nat} {vs : List Value} (h : Rep5 w g c n vs) : g < w.heap.size := by
  obtain ⟨cur, h1, _⟩ := h
  by_cases h : g < w.heap.size
  · exact h
  · rw [Array.getElem?_eq_none (by omega)] at h1; cases h1
def RetRep (w : World) (c : Nat) (q : Cx) (e : Ending) (w' : World) : Prop := ∃ g, e = .returned (.slice (some ⟨g, 0, none⟩) c c) ∧ w.heap.size ≤ g ∧ RowB w' g 34 (c * 5) ∧ (∀ k, k < c → PE w' g (k * 5) q) ∧ Below w.heap.size w w'
set_option maxRecDepth 100000 in
set_option maxHeartbeats 40000000 in
theorem repeat_any (w : World) (b c : Nat) (q : Cx) (hq : PE w b 0 q) (h0 : 0 < c) (hc : c ≤ 1000) :
    Calls Try.prog 48 #[.slice (some ⟨b, 0, none⟩) 1 1, .int .i64 c] w (RetRep w c q) := by
  have hmk := mk_nums c (by omega) w
  have hlb := hq.lt
  have hbel := mkN_below w c 34
  obtain ⟨⟨F0, cur0, hgrow, hsz, _⟩, _⟩ := mkN_row w c 34 h0
  have t1 : decide ((c : Int) < 0) = false := by rw [decide_eq_false_iff_not]; omega
  have w1 : IntKind.u64.wrap (c : Int) = c := by rw [IntKind.wrap_u64]; omega
  have w2 : IntKind.i64.wrap (c : Int) = c := by rw [IntKind.wrap_i64]; omega
  have w3 : IntKind.u64.wrap (1 : Int) = 1 := by rw [IntKind.wrap_u64]; omega
  have t2 : decide ((9223372036854775807 : Int) < (c : Int)) = false := by rw [decide_eq_false_iff_not]; omega
  obtain ⟨A1, A2, A3, ⟨c0, c1, c2, c3, c4⟩, hn⟩ := hq
  replace c0 := keepc hbel c0 hlb; replace c1 := keepc hbel c1 hlb; replace c2 := keepc hbel c2 hlb; replace c3 := keepc hbel c3 hlb; replace c4 := keepc hbel c4 hlb
  obtain ⟨vs, hvs⟩ : ∃ vs : List Value, vs = [.bool (sn (na q)), .slice A1 (ln (ab (na q))) (ln (ab (na q))), .bool (sn (nb q)), .slice A2 (ln (ab (nb q))) (ln (ab (nb q))), .slice A3 (ln (un q)) (ln (un q))] := ⟨_, rfl⟩
  have hsrc : ∀ j v, vs[j]? = some v → (mkN w c 34).cell? ((⟨b, 0, none⟩ : Addr).add j) = some v := by
    intro j v hj
    rw [add_none j rfl, Nat.zero_add]
    rw [hvs] at hj
    match j, hj with
    | 0, hj => simp at hj; rw [← hj]; exact c0
    | 1, hj => simp at hj; rw [← hj]; exact c1
    | 2, hj => simp at hj; rw [← hj]; exact c2
    | 3, hj => simp at hj; rw [← hj]; exact c3
    | 4, hj => simp at hj; rw [← hj]; exact c4
    | j + 5, hj => simp at hj
  have hlen : vs.length = 5 := by rw [hvs]; rfl
  have hone : ∀ v ∈ vs, v.oneCell' = true := by
    intro v hv
    rw [hvs] at hv
    simp only [List.mem_cons, List.not_mem_nil, or_false] at hv
    rcases hv with rfl | rfl | rfl | rfl | rfl <;> rfl
  obtain ⟨ti, ki, kz, ks, kb⟩ := info_parts Try.info_num
  have hs5 : (Try.prog.info? 34).map (·.size) = some 5 := by rw [ki]; simp [ks]
  have er := run_copy5 (mkN w c 34) 42 42 3 34 w.heap.size 0 c c ⟨b, 0, none⟩ 1 1 1 cur0 34 vs Try.und_nums hs5 hgrow (by show Nat.min 1 c = 1; exact Nat.min_eq_left (by omega)) (by rw [hlen]) hsrc (by rw [hlen, hsz]; omega) hone
  have hR1 := Rep5.grow (n := 0) (m := 1) (c := c) (vs := vs) hgrow hsz (fun k j hk _ => absurd hk (Nat.not_lt_zero _)) vs (by rw [hlen]) (fun k j hk hj => by
    have : k = 0 := by omega
    subst this; simp) (by omega)
  have hB1 := below_setRow (cs := (cur0.toList.take (0 * 5) ++ vs ++ cur0.toList.drop (0 * 5 + vs.length)).toArray) hbel (Nat.le_refl _)
  simp only [Nat.zero_mul, Nat.zero_add] at hR1 hB1 er
  obtain ⟨W1, hW1⟩ : ∃ W1 : World, W1 = (mkN w c 34).setRow w.heap.size (List.take 0 cur0.toList ++ vs ++ List.drop vs.length cur0.toList).toArray := ⟨_, rfl⟩
  rw [← hW1] at er hR1 hB1
  clear hW1
  have HVS := Lib.hid hvs; have HN := Lib.hid hn
  have HER := Lib.hid er
  clear c0 c1 c2 c3 c4 hsrc hgrow hbel hvs hsz er kz ki kb ks hn
  go_enter Try.func48, Try.ntmps48
  go_wp2_with fail
  refine (bits_mul1 c hc _).mono ?_
  rintro e w2' ⟨rfl, rfl⟩
  go_upto_region 7 with fail
  clear hmk w1 w2 w3 t1 t2
  go_wp2_with (at_builtin; go_loud (refine wpList_plain rfl fun _ hK => wp_copy_run5 rfl rfl rfl HER.out (hK _ _ ?_)))
  rw [HER.out]
  go_wp2_with fail
  clear HER
  obtain ⟨g, hg⟩ : ∃ g, g = w2'.heap.size := ⟨_, rfl⟩
  rw [← hg] at hR1 ⊢
  have HG := Lib.hid hg
  have hB2 : Below g w2' W1 := by rw [hg]; exact hB1
  clear hg hB1
  go_wp2_with fail
  go_loopw [8] (fun v (wr : World) => ∃ k : Nat, 1 ≤ k ∧ k ≤ c ∧ v = .int .i64 k ∧ Rep5 wr g c k vs ∧ Below g w2' wr) (fun v _ => c - (intOf v).toNat)
  case atStart => exact ⟨1, Nat.le_refl _, h0, rfl, hR1, hB2⟩
  case round =>
    obtain ⟨k, hk1, hk, rfl, hR, hB⟩ := hrel
    clear hR1 hB2
    by_cases hlt : k < c
    · have hRk := hR
      obtain ⟨cur, hg1, hsz, hcur⟩ := hR
      obtain ⟨mn, hmn⟩ : ∃ mn, mn = Nat.min k (c - k) := ⟨_, rfl⟩
      have hmn1 : 1 ≤ mn := by rw [hmn]; show 1 ≤ min k (c - k); omega
      have hmn2 : mn ≤ k ∧ mn ≤ c - k := by rw [hmn]; show min k (c - k) ≤ k ∧ min k (c - k) ≤ c - k; omega
      have i1 : (0 : Int) ≤ (k : Int) := by omega
      have i2 : (k : Int) ≤ (c : Int) := by omega
      have i5 : ¬ c = k := by omega
      obtain ⟨kn, hkn⟩ : ∃ kn, kn = k + mn := ⟨_, rfl⟩
      have hwr : IntKind.i64.wrap ((k : Int) + (mn : Int)) = (kn : Int) := by rw [IntKind.wrap_i64, hkn]; omega
      have HKN := Lib.hid hkn
      have HMN := Lib.hid hmn
      clear hkn
      have HRK := Lib.hid hRk; have HBB := Lib.hid hB
      clear hmn hRk hB hcur hg1 hsz
      go_upto_region 9 with fail
      refine wp_region_any (by kernel_rfl) ?_
      refine wpAny_inv (fun l a' w' => ∃ V : Nat → Value, ∃ x7 x9 : Value, a' = ⟨#[.slice (some ⟨b, 0, none⟩) 1 1, .int .i64 ↑c, undef, undef, .slice none 0 0, .int .u64 0, .int .u64 ↑c, .slice (some ⟨g, 0, none⟩) c c, x9, .int .i64 ↑c, .bool false, undef, .tuple #[.int .u64 0, .int .u64 ↑c], .slice (some ⟨b, 0, none⟩) 1 1, .int .i64 1, .int .u64 1, .int .i64 ↑c, .int .u64 ↑c, .tuple #[.int .u64 0, .int .u64 ↑c], .int .u64 0, .int .u64 ↑c, .int .u64 0, .bool false, .bool false, .int .u64 ↑c, .bool false, .bool false, undef, .int .u64 ↑c, .int .i64 ↑c, .slice (some ⟨g, 0, none⟩) c c, .slice (some ⟨g, 0, none⟩) c c, .slice (some ⟨b, 0, none⟩) 1 1, .int .i64 1, .int .i64 ↑k, .slice (some ⟨g, 0, none⟩) c c, .int .i64 ↑c, .bool true, V 0, V 1, V 2, V 3, V 4, V 5, V 6, x7, V 8, undef], []⟩ ∧ OnFix l V (fun zz => List.getD [.int .i64 k, .slice (some ⟨g, 0, none⟩) c c, .int .i64 k, .slice (some ⟨g, k * 5, none⟩) (c - k) (c - k), .slice (some ⟨g, 0, none⟩) c c, .int .i64 k, .slice (some ⟨g, 0, none⟩) k c, undef, .int .i64 kn, undef] zz undef) [0, 1, 2, 3, 4, 5, 6, 8] ∧ Off l 7 (Below wr.heap.size wr w') ∧ On l 7 (x7 = .int .i64 mn ∧ Rep5 w' g c kn vs ∧ Below g w2' w') ∧ Off l 9 (x9 = .int .i64 k) ∧ On l 9 (x9 = .int .i64 kn) ∧ Edg l [(9, 8), (8, 0), (8, 7), (7, 3), (3, 2), (7, 6), (6, 5)] ∧ l.size = 10) ?_ ?_ _ _ _ _ (by decide) ?_
      · intro l a' W' i hi hI
        obtain ⟨V, x7, x9, rfl, hv, hZ, hM0, hA9, hB9, hE, hz⟩ := hI
        obtain ⟨hlt, hoff, hpre⟩ := ready_pre hi
        have hc : i ∈ [0, 1, 2, 3, 4, 5, 6, 7, 8, 9] := (by decide : ∀ i, i < 10 → i ∈ [0, 1, 2, 3, 4, 5, 6, 7, 8, 9]) i hlt
        simp only [List.mem_cons, List.not_mem_nil, or_false] at hc
        clear hi hlt
        rcases hc with rfl | rfl | rfl | rfl | rfl | rfl | rfl | rfl | rfl | rfl <;> (have hp := hpre _ rfl; simp [Region.binds] at hp; clear hpre)
        · skip
          have HV := Lib.hid hv
          clear hv
          have e0 := hA9.get (fun h => off hoff (hE.get 8 0 (by decide) (hE.get 9 8 (by decide) h))); subst e0
          refine wpOp_go rfl rfl (fun K hK => ?_)
          go_simp
          refine hK _ _ ?_
          exact ⟨_, _, _, rfl, HV.out.new (x := .int .i64 k) rfl, hZ.keep, hM0.keep (by decide), hA9.keep, fun h => absurd (hE.get 8 0 (by decide) (hE.get 9 8 (by decide) (on_ne h (by decide)))) (off hoff), hE.mono (by decide), by simp [hz]⟩
        · skip
          have HV := Lib.hid hv
          clear hv
          refine wpOp_go rfl rfl (fun K hK => ?_)
          go_simp
          refine hK _ _ ?_
          exact ⟨_, _, _, rfl, HV.out.new (x := .slice (some ⟨g, 0, none⟩) c c) rfl, hZ.keep, hM0.keep (by decide), hA9.keep, hB9.keep (j := 1) (by decide), hE.mono (by decide), by simp [hz]⟩
        · skip
          have HV := Lib.hid hv
          clear hv
          have e0 := hA9.get (fun h => off hoff (hE.get 3 2 (by decide) (hE.get 7 3 (by decide) (hE.get 8 7 (by decide) (hE.get 9 8 (by decide) h))))); subst e0
          refine wpOp_go rfl rfl (fun K hK => ?_)
          go_simp
          refine hK _ _ ?_
          exact ⟨_, _, _, rfl, HV.out.new (x := .int .i64 k) rfl, hZ.keep, hM0.keep (by decide), hA9.keep, fun h => absurd (hE.get 3 2 (by decide) (hE.get 7 3 (by decide) (hE.get 8 7 (by decide) (hE.get 9 8 (by decide) (on_ne h (by decide)))))) (off hoff), hE.mono (by decide), by simp [hz]⟩
        · skip
          have e1 : V 1 = .slice (some ⟨g, 0, none⟩) c c := hv.get 1 (by decide) (by simp [hp])
          have e2 : V 2 = .int .i64 k := hv.get 2 (by decide) (by simp [hp])
          have HV := Lib.hid ((hv.fixE e1 rfl).fixE e2 rfl)
          clear hv
          simp only [e1, e2]
          refine wpOp_go rfl rfl (fun K hK => ?_)
          go_simp
          refine hK _ _ ?_
          exact ⟨_, _, _, rfl, HV.out.new (x := .slice (some ⟨g, k * 5, none⟩) (c - k) (c - k)) rfl, hZ.keep, hM0.keep (by decide), hA9.keep, hB9.keep (j := 3) (by decide), hE.step (by simp [hp]), by simp [hz]⟩
        · skip
          have HV := Lib.hid hv
          clear hv
          refine wpOp_go rfl rfl (fun K hK => ?_)
          go_simp
          refine hK _ _ ?_
          exact ⟨_, _, _, rfl, HV.out.new (x := .slice (some ⟨g, 0, none⟩) c c) rfl, hZ.keep, hM0.keep (by decide), hA9.keep, hB9.keep (j := 4) (by decide), hE.mono (by decide), by simp [hz]⟩
        · skip
          have HV := Lib.hid hv
          clear hv
          have e0 := hA9.get (fun h => off hoff (hE.get 6 5 (by decide) (hE.get 7 6 (by decide) (hE.get 8 7 (by decide) (hE.get 9 8 (by decide) h))))); subst e0
          refine wpOp_go rfl rfl (fun K hK => ?_)
          go_simp
          refine hK _ _ ?_
          exact ⟨_, _, _, rfl, HV.out.new (x := .int .i64 k) rfl, hZ.keep, hM0.keep (by decide), hA9.keep, fun h => absurd (hE.get 6 5 (by decide) (hE.get 7 6 (by decide) (hE.get 8 7 (by decide) (hE.get 9 8 (by decide) (on_ne h (by decide)))))) (off hoff), hE.mono (by decide), by simp [hz]⟩
        · skip
          have e4 : V 4 = .slice (some ⟨g, 0, none⟩) c c := hv.get 4 (by decide) (by simp [hp])
          have e5 : V 5 = .int .i64 k := hv.get 5 (by decide) (by simp [hp])
          have HV := Lib.hid ((hv.fixE e4 rfl).fixE e5 rfl)
          clear hv
          simp only [e4, e5]
          refine wpOp_go rfl rfl (fun K hK => ?_)
          go_simp
          refine hK _ _ ?_
          exact ⟨_, _, _, rfl, HV.out.new (x := .slice (some ⟨g, 0, none⟩) k c) rfl, hZ.keep, hM0.keep (by decide), hA9.keep, hB9.keep (j := 6) (by decide), hE.step (by simp [hp]), by simp [hz]⟩
        · skip
          have e3 : V 3 = .slice (some ⟨g, k * 5, none⟩) (c - k) (c - k) := hv.get 3 (by decide) (by simp [hp])
          have e6 : V 6 = .slice (some ⟨g, 0, none⟩) k c := hv.get 6 (by decide) (by simp [hp])
          have HV := Lib.hid ((hv.fixE e3 rfl).fixE e6 rfl)
          clear hv
          simp only [e3, e6]
          have hY := hZ.get (off hoff)
          obtain ⟨cur, hg1, hsz, hcur⟩ := HRK.out.to hY
          obtain ⟨W9, er, hR2, hB9'⟩ := copy_rep hg1 hsz hcur HVS.out HMN.out hmn1 hk1 hlt
          refine wpOp_go rfl rfl (fun K hK => ?_)
          refine wp_copy_run5 rfl rfl rfl er ?_
          go_simp
          refine hK _ _ ?_
          exact ⟨_, _, _, rfl, HV.out.other (by decide), Off.done (by omega), On.new (⟨rfl, by rw [HKN.out]; exact hR2, hB9' _ _ (HBB.out.trans (hY.mono (by have := HRK.out.lt; omega))) (Nat.le_refl _)⟩), hA9.keep, hB9.keep (j := 7) (by decide), hE.step (by simp [hp]), by simp [hz]⟩
        · skip
          have e0 : V 0 = .int .i64 k := hv.get 0 (by decide) (by simp [hp])
          have HV := Lib.hid (hv.fixE e0 rfl)
          clear hv
          simp only [e0]
          have hx7 := (hM0.get (by simp [hp])).1
          subst hx7
          refine wpOp_go rfl rfl (fun K hK => ?_)
          go_simp
          refine hK _ _ ?_
          exact ⟨_, _, _, rfl, HV.out.new (x := .int .i64 kn) rfl, hZ.keep, hM0.keep (by decide), hA9.keep, hB9.keep (j := 8) (by decide), hE.step (by simp [hp]), by simp [hz]⟩
        · skip
          have e8 : V 8 = .int .i64 kn := hv.get 8 (by decide) (by simp [hp])
          have HV := Lib.hid (hv.fixE e8 rfl)
          clear hv
          simp only [e8]
          refine wpOp_go rfl rfl (fun K hK => ?_)
          go_simp
          refine hK _ _ ?_
          exact ⟨_, _, _, rfl, HV.out.other (by decide), hZ.keep, hM0.keep (by decide), Off.done (by omega), On.new rfl, hE.step (by simp [hp]), by simp [hz]⟩
      · intro l a' W' hr hI
        obtain ⟨V, x7, x9, rfl, hv, hZ, hM0, hA9, hB9, hE, hz⟩ := hI
        have a0 := not_ready (i := 0) hr hz rfl (by simp [Region.binds])
        have a1 := not_ready (i := 1) hr hz rfl (by simp [Region.binds, a0])
        have a2 := not_ready (i := 2) hr hz rfl (by simp [Region.binds, a0, a1])
        have a3 := not_ready (i := 3) hr hz rfl (by simp [Region.binds, a0, a1, a2])
        have a4 := not_ready (i := 4) hr hz rfl (by simp [Region.binds, a0, a1, a2, a3])
        have a5 := not_ready (i := 5) hr hz rfl (by simp [Region.binds, a0, a1, a2, a3, a4])
        have a6 := not_ready (i := 6) hr hz rfl (by simp [Region.binds, a0, a1, a2, a3, a4, a5])
        have a7 := not_ready (i := 7) hr hz rfl (by simp [Region.binds, a0, a1, a2, a3, a4, a5, a6])
        have a8 := not_ready (i := 8) hr hz rfl (by simp [Region.binds, a0, a1, a2, a3, a4, a5, a6, a7])
        have a9 := not_ready (i := 9) hr hz rfl (by simp [Region.binds, a0, a1, a2, a3, a4, a5, a6, a7, a8])
        have hY := hM0.get a7
        have hX9 := hB9.get a9
        clear hr hz hv hZ a0 a1 a2 a3 a4 a5 a6 a7 a8 a9 hM0 hA9 hB9 hE
        subst hX9
        go_wp2_with fail
        go_roundw
        case rel => exact ⟨kn, by have := HKN.out; omega, by have := HKN.out; omega, rfl, hY.2.1, hY.2.2⟩
        case measure => simp [intOf]; have := HKN.out; omega
      · exact ⟨fun zz => List.getD [u38, u39, u40, u41, u42, u43, u44, u45, u46, Value.int IntKind.i64 ↑k] zz undef, _, _, rfl, OnFix.start, Off.new (((Below.refl _ _).drew)), fun h => absurd h (by decide), Off.new rfl, fun h => absurd h (by decide), Edg.start, by simp⟩
    · obtain rfl : k = c := by omega
      go_wp2_with fail
      go_ret
      obtain ⟨cur, hg1, hsz, hcur⟩ := hR
      have hcell : ∀ a j, a < k → j < 5 → wr.cell? ⟨g, a * 5 + j, none⟩ = vs[j]? := by
        intro a j ha hj
        rw [← hcur a j ha hj]
        simp [World.cell?, hg1]
      rw [HG.out] at hB
      refine ⟨g, rfl, by rw [HG.out]; exact Nat.le_refl _, ?_, fun a ha => ?_, hB⟩
      · refine ⟨⟨fun i => cur.getD i undef, cur, hg1, hsz, fun i hi => ?_⟩, sn (na q), ?_⟩
        · show cur[i]? = some (cur.getD i undef)
          rw [Array.getElem?_eq_getElem (by omega), Array.getD_eq_getD_getElem?, Array.getElem?_eq_getElem (by omega), Option.getD_some]
        · have := hcell 0 0 h0 (by omega)
          rw [HVS.out] at this
          simpa using this
      · have k0 := hcell a 0 ha (by omega); have k1 := hcell a 1 ha (by omega); have k2 := hcell a 2 ha (by omega); have k3 := hcell a 3 ha (by omega); have k4 := hcell a 4 ha (by omega)
        rw [HVS.out] at k0 k1 k2 k3 k4
        exact ⟨A1, A2, A3, ⟨by simpa using k0, by simpa using k1, by simpa using k2, by simpa using k3, by simpa using k4⟩, HN.out.to hB⟩
end Go.Proofs.Ytdpjknjlhchmcaa

namespace Go.Proofs.Ytdpjknjlhchmcaa
open Go.RowKit Pl
set_option linter.unusedVariables false
set_option linter.unusedSimpArgs false
/-- The first r rows are made; entry (i, k) is f i k where D says so. -/
def MkP (w0 : World) (gO n m r : Nat) (D : Nat → Nat → Prop) (f : Nat → Nat → Cx) (w : World) : Prop :=
  w0.heap.size ≤ gO ∧ gO < w.heap.size ∧ (∃ F, w.rowIs gO 42 n F) ∧
  (∃ G : Nat → Nat, (∀ i, i < n → i < r → w.cell? ⟨gO, i, none⟩ = some (.slice (some ⟨G i, 0, none⟩) m m) ∧ w0.heap.size ≤ G i ∧ G i ≠ gO ∧ G i < w.heap.size ∧ (0 < m → RowB w (G i) 34 (m * 5)) ∧ ∀ k, k < m → D i k → PE w (G i) (k * 5) (f i k)) ∧
    (∀ i, i < n → r ≤ i → w.cell? ⟨gO, i, none⟩ = some (.slice none 0 0)) ∧ (∀ i k, i < n → k < n → i < r → k < r → G i = G k → i = k)) ∧ Below w0.heap.size w0 w
theorem MkP.to {w0 w w' : World} {gO n m r : Nat} {D : Nat → Nat → Prop} {f : Nat → Nat → Cx} (h : MkP w0 gO n m r D f w) (hb : Below w.heap.size w w') : MkP w0 gO n m r D f w' := by
  obtain ⟨h1, h2, ⟨F, h3⟩, ⟨G, h4, h5, h6⟩, h7⟩ := h
  exact ⟨h1, Nat.lt_of_lt_of_le h2 hb.size, ⟨F, h3.of_block (hb.block gO h2)⟩, ⟨G, fun i hi hr => by
    obtain ⟨a1, a2, a3, a4, a5, a6⟩ := h4 i hi hr
    exact ⟨keepc hb a1 h2, a2, a3, Nat.lt_of_lt_of_le a4 hb.size, fun hm => (a5 hm).to hb, fun k hk hd => (a6 k hk hd).to hb⟩, fun i hi hr => keepc hb (h5 i hi hr) h2, h6⟩, h7.trans (hb.mono h7.size)⟩
theorem MkP.new {w : World} {n m : Nat} {D : Nat → Nat → Prop} {f : Nat → Nat → Cx} : MkP w w.heap.size n m 0 D f (mkS w n 42) := by
  have h := mkS_row w n 42
  exact ⟨Nat.le_refl _, by rw [mkS_size]; omega, ⟨_, h⟩, ⟨fun _ => 0, fun i _ hr => absurd hr (Nat.not_lt_zero _), fun i hi _ => h.cell hi, fun i k _ _ h => absurd h (Nat.not_lt_zero _)⟩, mkS_below _ _ _⟩
theorem MkP.at {w0 w : World} {gO n m r : Nat} {D : Nat → Nat → Prop} {f : Nat → Nat → Cx} (h : MkP w0 gO n m r D f w) {i : Nat} (hi : i < n) : ∃ v, w.cell? ⟨gO, i, none⟩ = some v ∧ w.frozen? ⟨gO, i, none⟩ = false := by
  obtain ⟨_, _, ⟨F, h3⟩, _⟩ := h
  exact ⟨_, h3.cell hi, h3.frozen i⟩
/-- An entry is stored. -/
theorem MkP.put {w0 W : World} {gO n m r i k : Nat} {D : Nat → Nat → Prop} {f : Nat → Nat → Cx} (h : MkP w0 gO n m r D f W) (hi : i < n) (hr : i < r) (hk : k < m) :
    ∃ g, W.cell? ⟨gO, i, none⟩ = some (.slice (some ⟨g, 0, none⟩) m m) ∧ gO < W.heap.size ∧ g < W.heap.size ∧ (D i k → PE W g (k * 5) (f i k)) ∧ ∀ w, Below W.heap.size W w →
      (∃ u0 u1 u2 u3 u4, w.cell? ⟨g, k * 5, none⟩ = some u0 ∧ w.cell? ⟨g, k * 5 + 1, none⟩ = some u1 ∧ w.cell? ⟨g, k * 5 + 2, none⟩ = some u2 ∧ w.cell? ⟨g, k * 5 + 3, none⟩ = some u3 ∧ w.cell? ⟨g, k * 5 + 4, none⟩ = some u4) ∧
      (w.frozen? ⟨g, k * 5, none⟩ = false ∧ w.frozen? ⟨g, k * 5 + 1, none⟩ = false ∧ w.frozen? ⟨g, k * 5 + 2, none⟩ = false ∧ w.frozen? ⟨g, k * 5 + 3, none⟩ = false ∧ w.frozen? ⟨g, k * 5 + 4, none⟩ = false) ∧
      ∀ (D' : Nat → Nat → Prop) (f' : Nat → Nat → Cx) (q : Cx) (A1 A2 A3 : Option Addr), Num3 w A1 A2 A3 q → f' i k = q → (∀ a b, ¬ (a = i ∧ b = k) → D' a b → D a b ∧ f' a b = f a b) → MkP w0 gO n m r D' f' (set5o w g (k * 5) q A1 A2 A3) := by
  have hW := h
  obtain ⟨h1, h2, _, ⟨G, h4, h5, h6⟩, _⟩ := hW
  obtain ⟨a1, a2, a3, a4, a5, a6⟩ := h4 i hi hr
  refine ⟨G i, a1, h2, a4, a6 k hk, fun w hb => ?_⟩
  obtain ⟨k1, k2, ⟨F, k3⟩, _, k7⟩ := h.to hb
  have hrow := (a5 (by omega)).to hb
  obtain ⟨⟨F2, q1⟩, c, q2⟩ := hrow
  have e5 : k * 5 + 5 ≤ m * 5 := by omega
  refine ⟨⟨_, _, _, _, _, q1.cell (by omega), q1.cell (by omega), q1.cell (by omega), q1.cell (by omega), q1.cell (by omega)⟩, ⟨q1.frozen _, q1.frozen _, q1.frozen _, q1.frozen _, q1.frozen _⟩, fun D' f' q A1 A2 A3 hq hf hD => ?_⟩
  have g4 : ∀ j, j < n → j < r → w.cell? ⟨gO, j, none⟩ = some (.slice (some ⟨G j, 0, none⟩) m m) ∧ w0.heap.size ≤ G j ∧ G j ≠ gO ∧ G j < w.heap.size ∧ (0 < m → RowB w (G j) 34 (m * 5)) ∧ ∀ k, k < m → D j k → PE w (G j) (k * 5) (f j k) := fun j hj hjr => by
    obtain ⟨b1, b2, b3, b4, b5, b6⟩ := h4 j hj hjr
    exact ⟨keepc hb b1 h2, b2, b3, Nat.lt_of_lt_of_le b4 hb.size, fun hm => (b5 hm).to hb, fun k hk hd => (b6 k hk hd).to hb⟩
  refine ⟨k1, by rw [set5o_size]; exact k2, ?_, ⟨G, fun j hj hjr => ?_, fun j hj hjr => set5o_cell (keepc hb (h5 j hj hjr) h2) (.inl (Ne.symm a3)), h6⟩, set5o_below k7 a2⟩
  · exact ⟨F, ((((k3.setOther (a := ⟨G i, k * 5, none⟩) (Ne.symm a3) _).setOther (a := ⟨G i, k * 5 + 1, none⟩) (Ne.symm a3) _).setOther (a := ⟨G i, k * 5 + 2, none⟩) (Ne.symm a3) _).setOther (a := ⟨G i, k * 5 + 3, none⟩) (Ne.symm a3) _).setOther (a := ⟨G i, k * 5 + 4, none⟩) (Ne.symm a3) _⟩
  · obtain ⟨b1, b2, b3, b4, b5, b6⟩ := g4 j hj hjr
    refine ⟨set5o_cell b1 (.inl (Ne.symm a3)), b2, b3, by rw [set5o_size]; exact b4, fun hm => (b5 hm).set5o, fun l hl hd => ?_⟩
    by_cases e : j = i ∧ l = k
    · obtain ⟨rfl, rfl⟩ := e
      rw [hf]
      exact pe_set q1 e5 q2 hq
    · obtain ⟨d1, d2⟩ := hD j l e hd
      rw [d2]
      refine (b6 l hl d1).set5o ?_ q2
      by_cases ej : j = i
      · subst ej
        right
        have : l ≠ k := fun e2 => e ⟨rfl, e2⟩
        omega
      · left
        intro e2
        exact ej (h6 j i hj hi hjr hr e2)
theorem MkP.fin {w0 w : World} {gO n m : Nat} {D : Nat → Nat → Prop} {f : Nat → Nat → Cx} (h : MkP w0 gO n m n D f w) (hD : ∀ i k, D i k) : MatP w (some ⟨gO, 0, none⟩) n (fun _ => m) f ∧ Below w0.heap.size w0 w := by
  obtain ⟨h1, h2, _, ⟨G, h4, _, _⟩, h7⟩ := h
  exact ⟨⟨fun i => some ⟨G i, 0, none⟩, fun _ => m, fun i hi => ⟨gO, 0, rfl, h2, by rw [Nat.zero_add]; exact (h4 i hi hi).1⟩, fun i hi j hj => ⟨_, rfl, (h4 i hi hi).2.2.2.2.2 j hj (hD i j)⟩⟩, h7⟩
theorem MkP.cong {w0 w : World} {gO n m r : Nat} {D D' : Nat → Nat → Prop} {f f' : Nat → Nat → Cx} (h : MkP w0 gO n m r D f w) (hd : ∀ i k, i < r → k < m → D' i k → D i k ∧ f' i k = f i k) : MkP w0 gO n m r D' f' w := by
  obtain ⟨h1, h2, h3, ⟨G, h4, h5, h6⟩, h7⟩ := h
  exact ⟨h1, h2, h3, ⟨G, fun i hi hr => by
    obtain ⟨a1, a2, a3, a4, a5, a6⟩ := h4 i hi hr
    exact ⟨a1, a2, a3, a4, a5, fun k hk hk2 => by rw [(hd i k hr hk hk2).2]; exact a6 k hk (hd i k hr hk hk2).1⟩, h5, h6⟩, h7⟩
theorem MkP.below {w0 w : World} {gO n m r : Nat} {D : Nat → Nat → Prop} {f : Nat → Nat → Cx} (h : MkP w0 gO n m r D f w) : Below w0.heap.size w0 w := h.2.2.2.2
/-- A row that was made elsewhere is put in. -/
theorem MkP.rowR {w0 We w : World} {gO n m r g : Nat} {D : Nat → Nat → Prop} {f : Nat → Nat → Cx} (h : MkP w0 gO n m r D f We) (hr : r < n) (hb : Below We.heap.size We w) (hg : We.heap.size ≤ g) (hgl : g < w.heap.size) (hrow : 0 < m → RowB w g 34 (m * 5)) (hpe : ∀ k, k < m → D r k → PE w g (k * 5) (f r k)) :
    MkP w0 gO n m (r + 1) D f (w.setCell ⟨gO, r, none⟩ (.slice (some ⟨g, 0, none⟩) m m)) := by
  have h2 := h.to hb
  obtain ⟨_, a2, _, ⟨G0, a4, n5, a6⟩, _⟩ := h
  obtain ⟨h1, h3, ⟨F, h4⟩, _, h8⟩ := h2
  have hold : ∀ i, i < n → i < r → w.cell? ⟨gO, i, none⟩ = some (.slice (some ⟨G0 i, 0, none⟩) m m) ∧ w0.heap.size ≤ G0 i ∧ G0 i ≠ gO ∧ G0 i < We.heap.size ∧ (0 < m → RowB w (G0 i) 34 (m * 5)) ∧ ∀ k, k < m → D i k → PE w (G0 i) (k * 5) (f i k) := fun i hi hi2 => by
    obtain ⟨b1, b2, b3, b4, b5, b6⟩ := a4 i hi hi2
    exact ⟨keepc hb b1 a2, b2, b3, b4, fun hm => (b5 hm).to hb, fun k hk hd => (b6 k hk hd).to hb⟩
  have hnil : ∀ i, i < n → r ≤ i → w.cell? ⟨gO, i, none⟩ = some (.slice none 0 0) := fun i hi hi2 => keepc hb (n5 i hi hi2) a2
  have hS : ∃ (S : Option Addr) (a b : Nat), w.cell? ⟨gO, 0, none⟩ = some (.slice S a b) := by
    by_cases h0 : 0 < r
    · exact ⟨_, _, _, (hold 0 (by omega) h0).1⟩
    · exact ⟨_, _, _, hnil 0 (by omega) (by omega)⟩
  obtain ⟨S, sa, sb, hS⟩ := hS
  have u := hnil r hr (Nat.le_refl _)
  have hsz := hb.size
  refine ⟨h1, by simpa [World.setCell] using h3, ⟨_, h4.set _ _⟩, ⟨fun i => if i = r then g else G0 i, fun i hi hi2 => ?_, fun i hi hi2 => keepo (hnil i hi (by omega)) (.inr (by omega)), fun i k hi hk hi2 hk2 he => ?_⟩, h8.setCell h1 _⟩
  · by_cases e : i = r
    · subst e
      simp only [if_pos]
      refine ⟨cell_self u, Nat.le_trans h1 (by omega), by omega, by simpa [World.setCell] using hgl, fun hm => ?_, fun k hk hd => (hpe k hk hd).setS (by omega) hS⟩
      obtain ⟨⟨F2, q1⟩, c, q2⟩ := hrow hm
      exact ⟨⟨F2, q1.setOther (a := ⟨gO, i, none⟩) (by show g ≠ gO; omega) _⟩, c, keepo q2 (.inl (by omega))⟩
    · simp only [if_neg e]
      obtain ⟨b1, b2, b3, b4, b5, b6⟩ := hold i hi (by omega)
      refine ⟨keepo b1 (.inr (by omega)), b2, b3, by simp [World.setCell]; omega, fun hm => ?_, fun k hk hd => (b6 k hk hd).setS b3 hS⟩
      obtain ⟨⟨F2, q1⟩, c, q2⟩ := b5 hm
      exact ⟨⟨F2, q1.setOther (a := ⟨gO, r, none⟩) b3 _⟩, c, keepo q2 (.inl b3)⟩
  · by_cases ei : i = r <;> by_cases ek : k = r
    · omega
    · simp only [if_pos ei, if_neg ek] at he
      have := (hold k hk (by omega)).2.2.2.1
      omega
    · simp only [if_pos ek, if_neg ei] at he
      have := (hold i hi (by omega)).2.2.2.1
      omega
    · simp only [if_neg ei, if_neg ek] at he
      exact a6 i k hi hk (by omega) (by omega) he
end Go.Proofs.Ytdpjknjlhchmcaa
