/- Part 7 of the proof. -/
import Derived.Test.YtdpjknjlhchmcaaNM6
import Derived.Test.YtdpjknjlhchmcaaNM4
import Derived.Test.YtdpjknjlhchmcaaNM2
namespace Go.Proofs.Ytdpjknjlhchmcaa
open Go.RowKit Pl
set_option linter.unusedVariables false
set_option linter.unusedSimpArgs false
/-- The matrix of n rows whose elements are taken from a list of k, again and again. -/
def sqm (k n : Nat) (X Y Z : Nat → Int) : Nat → Nat → Cx := fun i j => if k = 0 then Cx.zero else ofv (X ((i * n + j) % k)) (Y ((i * n + j) % k)) (Z ((i * n + j) % k))
/-- Row i up to column j; 0 behind it. -/
def fillTo (F : Nat → Nat → Cx) (i j : Nat) : Nat → Nat → Cx := fun a b => if a < i ∨ (a = i ∧ b < j) then F a b else Cx.zero
theorem WkP.ofMk {w0 w : World} {gO n m : Nat} {D : Nat → Nat → Prop} {f : Nat → Nat → Cx} (h : MkP w0 gO n m n D f w) (hD : ∀ i k, D i k) (hm : 0 < n → 0 < m) : WkP w0 w.heap.size gO n m f w := by
  obtain ⟨h1, h2, h3, ⟨G, h4, _, h6⟩, h7⟩ := h
  exact ⟨h1, ⟨h2, Nat.le_refl _⟩, h3, ⟨G, fun _ => m, fun i hi => by
    obtain ⟨a1, a2, a3, a4, a5, a6⟩ := h4 i hi hi
    exact ⟨a1, a2, a3, a4, Nat.le_refl _, a5 (hm (by omega)), fun k hk => a6 k hk (hD i k)⟩, fun i k hi hk he => h6 i k hi hk hi hk he⟩, h7⟩
theorem zero_num3 (w : World) : Num3 w none none none Cx.zero := by
  obtain ⟨z1, z2, z3⟩ := zero_form
  exact ⟨fun h => absurd h (by rw [z1]; decide), fun h => absurd h (by rw [z2]; decide), fun h => absurd h (by rw [z3]; decide)⟩
theorem mkN_zero (w : World) (n : Nat) (T : TypeId) : ∀ k, k < n → PE (mkN w n T) w.heap.size (k * 5) Cx.zero := by
  intro k hk
  have h := World.rowIs_alloc w (madeCells Z5 (n * 5)) T (fun j => Z5[j % 5]!) (fun i hi => by rw [size_madeCells] at hi; simp [madeCells, hi]; rfl)
  rw [size_madeCells] at h
  obtain ⟨z1, z2, z3⟩ := zero_form
  have e0 : ln (ab (0 : Int)) = 0 := ln_zero
  have c0 := h.cell (i := k * 5) (by omega)
  have c1 := h.cell (i := k * 5 + 1) (by omega)
  have c2 := h.cell (i := k * 5 + 2) (by omega)
  have c3 := h.cell (i := k * 5 + 3) (by omega)
  have c4 := h.cell (i := k * 5 + 4) (by omega)
  rw [show k * 5 % 5 = 0 by omega] at c0
  rw [show (k * 5 + 1) % 5 = 1 by omega] at c1
  rw [show (k * 5 + 2) % 5 = 2 by omega] at c2
  rw [show (k * 5 + 3) % 5 = 3 by omega] at c3
  rw [show (k * 5 + 4) % 5 = 4 by omega] at c4
  exact ⟨none, none, none, ⟨by rw [z1]; exact c0, by rw [z1, e0]; exact c1, by rw [z2]; exact c2, by rw [z2, e0]; exact c3, by rw [z3, ln_zero]; exact c4⟩, zero_num3 _⟩
theorem wrapi_nat {a : Nat} (h : a ≤ 4000000) : IntKind.i64.wrap (a : Int) = (a : Int) := by simp [IntKind.wrap, IntKind.bits, IntKind.signed]; omega
def RetSq (w : World) (n : Nat) (f : Nat → Nat → Cx) (e : Ending) (w' : World) : Prop := ∃ gO, e = .returned (.slice (some ⟨gO, 0, none⟩) n n) ∧ WkP w w'.heap.size gO n n f w'
set_option maxRecDepth 100000 in
set_option maxHeartbeats 40000000 in
theorem sq_law (w : World) (A : Option Addr) (k c n : Nat) (X Y Z : Nat → Int) (hT : Triples w A k X Y Z) (hn : n ≤ 10) (hk : k ≤ maxLen) :
    Calls Try.prog 6 #[.slice A k c, .int .i64 n] w (RetSq w n (sqm k n X Y Z)) := by
  obtain ⟨F, hF⟩ : ∃ F, F = sqm k n X Y Z := ⟨_, rfl⟩
  rw [← hF]
  have HF := Lib.hid hF
  have HT := Lib.hid hT
  clear hF hT
  have hmk := mk_nums2 n (by omega)
  have hmk1 := mk_nums n (by omega)
  go_enter Try.func6, Try.ntmps6
  go_wp2_with fail
  clear hmk
  have hB0 : MkP w w.heap.size n n 0 (fun _ _ => True) F (mkS w n 42) := MkP.new
  generalize mkS w n 42 = W0 at *
  obtain ⟨gO, hgO⟩ : ∃ g, g = w.heap.size := ⟨_, rfl⟩
  rw [← hgO] at hB0 ⊢
  clear hgO
  go_loopw [12] (fun i (wr : World) => ∃ i' : Nat, i' ≤ n ∧ i = .int .i64 i' ∧ MkP w gO n n i' (fun _ _ => True) F wr) (fun i _ => n - (intOf i).toNat)
  case atStart => exact ⟨0, Nat.zero_le _, rfl, hB0⟩
  case round =>
    obtain ⟨i, hi, rfl, hB⟩ := hrel
    clear hB0
    by_cases hlt : i < n
    · have hbm := mkN_below wr n 34
      have hB1 := (hB.cong (D' := fun _ _ => True) (f' := fillTo F i 0) (fun a b ha _ _ => ⟨trivial, if_pos (.inl ha)⟩)).rowR hlt hbm (Nat.le_refl _) (by rw [mkN_size]; omega) (fun h => mkN_row wr n _ h) (fun b hb _ => by
        rw [show fillTo F i 0 i b = Cx.zero from if_neg (by omega)]; exact mkN_zero wr n _ b hb)
      obtain ⟨v0, b1, b2⟩ := (hB.to hbm).at hlt
      have i1 : (0 : Int) ≤ (i : Int) := by omega
      have i2 : (i : Int) < (n : Int) := by omega
      have HB1 := Lib.hid hB1
      clear hB1 hB hbm
      go_upto_region 7 with fail
      obtain ⟨gr, hgr⟩ : ∃ g, g = wr.heap.size := ⟨_, rfl⟩
      rw [← hgr] at HB1 ⊢
      clear hgr
      obtain ⟨W1, hW1⟩ : ∃ X : World, X = (mkN wr n 34).setCell ⟨gO, i, none⟩ (.slice (some ⟨gr, 0, none⟩) n n) := ⟨_, rfl⟩
      rw [← hW1]
      have hB2 : MkP w gO n n (i + 1) (fun _ _ => True) (fillTo F i 0) W1 := by rw [hW1]; exact HB1.out
      clear HB1 b1 b2 hW1
      go_loopw [25] (fun q (wr : World) => ∃ j : Nat, j ≤ n ∧ q = .int .i64 j ∧ MkP w gO n n (i + 1) (fun _ _ => True) (fillTo F i j) wr) (fun q _ => n - (intOf q).toNat)
      case atStart => exact ⟨0, Nat.zero_le _, rfl, hB2⟩
      case round =>
        obtain ⟨j, hj, rfl, hB⟩ := hrel
        clear hB2
        by_cases hjn : j < n
        · by_cases hk0 : k = 0
          · have t0 : decide (0 < k) = false := by rw [decide_eq_false_iff_not]; omega
            have hst := hB.cong (D' := fun _ _ => True) (f' := fillTo F i (j + 1)) (fun a b ha _ _ => ⟨trivial, by
              unfold fillTo
              have e : ∀ a b, F a b = Cx.zero := fun a b => by rw [HF.out]; exact if_pos hk0
              simp only [e]
              split <;> split <;> rfl⟩)
            have HST := Lib.hid hst
            clear hst hB hk0
            go_wp2_with fail
            go_roundw
            case rel => exact ⟨j + 1, by omega, by go_num, HST.out⟩
            case measure => simp [intOf]; omega
          · have t0 : decide (0 < k) = true := by rw [decide_eq_true_eq]; omega
            obtain ⟨g, r1, r2, r3, _, hput⟩ := hB.put hlt (Nat.lt_succ_self i) hjn
            obtain ⟨p1, hp1⟩ : ∃ p, p = i * n := ⟨_, rfl⟩
            obtain ⟨p2, hp2⟩ : ∃ p, p = p1 + j := ⟨_, rfl⟩
            obtain ⟨p3, hp3⟩ : ∃ p, p = p2 % k := ⟨_, rfl⟩
            have hp1b : p1 ≤ 100 := by rw [hp1]; exact Nat.mul_le_mul (show i ≤ 10 by omega) hn
            have q1 : (i : Int) * (n : Int) = (p1 : Int) := by rw [hp1]; simp
            have q2 : (p1 : Int) + (j : Int) = (p2 : Int) := by omega
            have q4 := wrapi_nat (a := p1) (by omega)
            have q5 := wrapi_nat (a := p2) (by omega)
            have q3 : (p2 : Int).tmod (k : Int) = (p3 : Int) := by rw [hp3]; rfl
            have hp3b : p3 < k := by rw [hp3]; exact Nat.mod_lt _ (by omega)
            obtain ⟨bA, fo, rfl, hlA, c0, c1, c2, rx, ry, rz⟩ := (HT.out.to hB.below) p3 hp3b
            obtain ⟨q, hq⟩ : ∃ q, q = ofv (X p3) (Y p3) (Z p3) := ⟨_, rfl⟩
            have HOF := Lib.hid (fun W => of_any (X p3) (Y p3) (Z p3) W rx ry rz)
            rw [← hq] at HOF
            have hnew : fillTo F i (j + 1) i j = q := by
              rw [show fillTo F i (j + 1) i j = F i j from if_pos (.inr ⟨rfl, Nat.lt_succ_self j⟩), HF.out]
              unfold sqm
              rw [if_neg hk0, ← hp1, ← hp2, ← hp3, hq]
            have HNEW := Lib.hid hnew
            generalize X p3 = x at *
            generalize Y p3 = y at *
            generalize Z p3 = z at *
            have i3 : (0 : Int) ≤ (j : Int) := by omega
            have i4 : (j : Int) < (n : Int) := by omega
            have i5 : (0 : Int) ≤ (p3 : Int) := by omega
            have i6 : (p3 : Int) < (k : Int) := by omega
            have i7 : (0 : Int) < (k : Int) := by omega
            have hlw := hB.below
            clear hB hp1 hp2 hp3 hq hnew rx ry rz
            go_upto_region 10 with fail
            refine wp_region_any (by kernel_rfl) ?_
            refine wpAny_inv (fun l a' w' => ∃ V : Nat → Value, ∃ x16 : Value, a' = ⟨#[.slice (some ⟨bA, fo, none⟩) k c, .int .i64 ↑n, undef, undef, .slice none 0 0, .slice (some ⟨gO, 0, none⟩) n n, .int .i64 ↑i, .int .i64 ↑j, .int .i64 ↑n, .slice (some ⟨gO, 0, none⟩) n n, .slice (some ⟨gO, 0, none⟩) n n, .int .i64 ↑n, .int .i64 ↑i, .bool true, .int .i64 ↑i, .slice (some ⟨gO, 0, none⟩) n n, .int .i64 ↑i, .int .i64 ↑n, .slice (some ⟨gr, 0, none⟩) n n, .pointer (some ⟨gO, i, none⟩), .slice (some ⟨gO, 0, none⟩) n n, .int .i64 ↑i, .pointer (some ⟨gO, i, none⟩), .slice (some ⟨gr, 0, none⟩) n n, .int .i64 ↑n, .int .i64 ↑j, .bool true, .int .i64 ↑j, .slice (some ⟨bA, fo, none⟩) k c, .int .i64 ↑k, .bool true, V 0, V 1, V 2, V 3, V 4, V 5, V 6, V 7, V 8, V 9, V 10, V 11, V 12, V 13, V 14, V 15, x16, V 17, u49, u50, undef], []⟩ ∧ OnFix l V (fun zz => List.getD [.slice (some ⟨gO, 0, none⟩) n n, .int .i64 i, .pointer (some ⟨gO, i, none⟩), .slice (some ⟨g, 0, none⟩) n n, .int .i64 j, .slice (some ⟨bA, fo, none⟩) k c, .int .i64 i, .int .i64 n, .int .i64 p1, .int .i64 j, .int .i64 p2, .slice (some ⟨bA, fo, none⟩) k c, .int .i64 k, .int .i64 p3, .pointer (some ⟨bA, fo + p3 * 3, none⟩), .agg #[.int .i64 x, .int .i64 y, .int .i64 z], undef, .pointer (some ⟨g, j * 5, none⟩), undef] zz undef) [0, 1, 2, 3, 4, 5, 6, 7, 8, 9, 10, 11, 12, 13, 14, 15, 17] ∧ Off l 18 (Below wr.heap.size wr w' ∧ On l 16 (SlotNum w' x16 q)) ∧ On l 18 (MkP w gO n n (i + 1) (fun _ _ => True) (fillTo F i (j + 1)) w') ∧ Edg l [(18, 17), (17, 3), (18, 16), (16, 15)] ∧ l.size = 19) ?_ ?_ _ _ _ _ (by decide) ?_
            · intro l a' W' i hi hI
              obtain ⟨V, x16, rfl, hv, hZ, hM0, hE, hz⟩ := hI
              obtain ⟨hlt, hoff, hpre⟩ := ready_pre hi
              have hc : i ∈ [0, 1, 2, 3, 4, 5, 6, 7, 8, 9, 10, 11, 12, 13, 14, 15, 16, 17, 18] := (by decide : ∀ i, i < 19 → i ∈ [0, 1, 2, 3, 4, 5, 6, 7, 8, 9, 10, 11, 12, 13, 14, 15, 16, 17, 18]) i hlt
              simp only [List.mem_cons, List.not_mem_nil, or_false] at hc
              clear hi hlt
              rcases hc with rfl | rfl | rfl | rfl | rfl | rfl | rfl | rfl | rfl | rfl | rfl | rfl | rfl | rfl | rfl | rfl | rfl | rfl | rfl <;> (have hp := hpre _ rfl; simp [Region.binds] at hp; clear hpre)
              · skip
                have HV := Lib.hid hv
                clear hv
                refine wpOp_go rfl rfl (fun K hK => ?_)
                go_simp
                refine hK _ _ ?_
                exact ⟨_, _, rfl, HV.out.new (x := .slice (some ⟨gO, 0, none⟩) n n) rfl, hZ.keep.map (fun ⟨hb0, y16⟩ => ⟨hb0, y16.keep (by decide)⟩), hM0.keep (by decide), hE.mono (by decide), by simp [hz]⟩
              · skip
                have HV := Lib.hid hv
                clear hv
                refine wpOp_go rfl rfl (fun K hK => ?_)
                go_simp
                refine hK _ _ ?_
                exact ⟨_, _, rfl, HV.out.new (x := .int .i64 i) rfl, hZ.keep.map (fun ⟨hb0, y16⟩ => ⟨hb0, y16.keep (by decide)⟩), hM0.keep (by decide), hE.mono (by decide), by simp [hz]⟩
              · skip
                have e0 : V 0 = .slice (some ⟨gO, 0, none⟩) n n := hv.get 0 (by decide) (by simp [hp])
                have e1 : V 1 = .int .i64 i := hv.get 1 (by decide) (by simp [hp])
                have HV := Lib.hid ((hv.fixE e0 rfl).fixE e1 rfl)
                clear hv
                simp only [e0, e1]
                refine wpOp_go rfl rfl (fun K hK => ?_)
                go_simp
                refine hK _ _ ?_
                exact ⟨_, _, rfl, HV.out.new (x := .pointer (some ⟨gO, i, none⟩)) rfl, hZ.keep.map (fun ⟨hb0, y16⟩ => ⟨hb0, y16.keep (by decide)⟩), hM0.keep (by decide), hE.mono (by decide), by simp [hz]⟩
              · skip
                have e2 : V 2 = .pointer (some ⟨gO, i, none⟩) := hv.get 2 (by decide) (by simp [hp])
                have HV := Lib.hid (hv.fixE e2 rfl)
                clear hv
                simp only [e2]
                have hY := hZ.get (fun h => off hoff (hE.get 17 3 (by decide) (hE.get 18 17 (by decide) h)))
                have z := keepc hY.1 r1 r2
                refine wpOp_go rfl rfl (fun K hK => ?_)
                go_simp
                refine hK _ _ ?_
                exact ⟨_, _, rfl, HV.out.new (x := .slice (some ⟨g, 0, none⟩) n n) rfl, hZ.keep.map (fun ⟨hb0, y16⟩ => ⟨hb0, y16.keep (by decide)⟩), hM0.keep (by decide), hE.mono (by decide), by simp [hz]⟩
              · skip
                have HV := Lib.hid hv
                clear hv
                refine wpOp_go rfl rfl (fun K hK => ?_)
                go_simp
                refine hK _ _ ?_
                exact ⟨_, _, rfl, HV.out.new (x := .int .i64 j) rfl, hZ.keep.map (fun ⟨hb0, y16⟩ => ⟨hb0, y16.keep (by decide)⟩), hM0.keep (by decide), hE.mono (by decide), by simp [hz]⟩
              · skip
                have HV := Lib.hid hv
                clear hv
                refine wpOp_go rfl rfl (fun K hK => ?_)
                go_simp
                refine hK _ _ ?_
                exact ⟨_, _, rfl, HV.out.new (x := .slice (some ⟨bA, fo, none⟩) k c) rfl, hZ.keep.map (fun ⟨hb0, y16⟩ => ⟨hb0, y16.keep (by decide)⟩), hM0.keep (by decide), hE.mono (by decide), by simp [hz]⟩
              · skip
                have HV := Lib.hid hv
                clear hv
                refine wpOp_go rfl rfl (fun K hK => ?_)
                go_simp
                refine hK _ _ ?_
                exact ⟨_, _, rfl, HV.out.new (x := .int .i64 i) rfl, hZ.keep.map (fun ⟨hb0, y16⟩ => ⟨hb0, y16.keep (by decide)⟩), hM0.keep (by decide), hE.mono (by decide), by simp [hz]⟩
              · skip
                have HV := Lib.hid hv
                clear hv
                refine wpOp_go rfl rfl (fun K hK => ?_)
                go_simp
                refine hK _ _ ?_
                exact ⟨_, _, rfl, HV.out.new (x := .int .i64 n) rfl, hZ.keep.map (fun ⟨hb0, y16⟩ => ⟨hb0, y16.keep (by decide)⟩), hM0.keep (by decide), hE.mono (by decide), by simp [hz]⟩
              · skip
                have e6 : V 6 = .int .i64 i := hv.get 6 (by decide) (by simp [hp])
                have e7 : V 7 = .int .i64 n := hv.get 7 (by decide) (by simp [hp])
                have HV := Lib.hid ((hv.fixE e6 rfl).fixE e7 rfl)
                clear hv
                simp only [e6, e7]
                refine wpOp_go rfl rfl (fun K hK => ?_)
                go_simp
                refine hK _ _ ?_
                exact ⟨_, _, rfl, HV.out.new (x := .int .i64 p1) rfl, hZ.keep.map (fun ⟨hb0, y16⟩ => ⟨hb0, y16.keep (by decide)⟩), hM0.keep (by decide), hE.mono (by decide), by simp [hz]⟩
              · skip
                have HV := Lib.hid hv
                clear hv
                refine wpOp_go rfl rfl (fun K hK => ?_)
                go_simp
                refine hK _ _ ?_
                exact ⟨_, _, rfl, HV.out.new (x := .int .i64 j) rfl, hZ.keep.map (fun ⟨hb0, y16⟩ => ⟨hb0, y16.keep (by decide)⟩), hM0.keep (by decide), hE.mono (by decide), by simp [hz]⟩
              · skip
                have e8 : V 8 = .int .i64 p1 := hv.get 8 (by decide) (by simp [hp])
                have e9 : V 9 = .int .i64 j := hv.get 9 (by decide) (by simp [hp])
                have HV := Lib.hid ((hv.fixE e8 rfl).fixE e9 rfl)
                clear hv
                simp only [e8, e9]
                refine wpOp_go rfl rfl (fun K hK => ?_)
                go_simp
                refine hK _ _ ?_
                exact ⟨_, _, rfl, HV.out.new (x := .int .i64 p2) rfl, hZ.keep.map (fun ⟨hb0, y16⟩ => ⟨hb0, y16.keep (by decide)⟩), hM0.keep (by decide), hE.mono (by decide), by simp [hz]⟩
              · skip
                have HV := Lib.hid hv
                clear hv
                refine wpOp_go rfl rfl (fun K hK => ?_)
                go_simp
                refine hK _ _ ?_
                exact ⟨_, _, rfl, HV.out.new (x := .slice (some ⟨bA, fo, none⟩) k c) rfl, hZ.keep.map (fun ⟨hb0, y16⟩ => ⟨hb0, y16.keep (by decide)⟩), hM0.keep (by decide), hE.mono (by decide), by simp [hz]⟩
              · skip
                have e11 : V 11 = .slice (some ⟨bA, fo, none⟩) k c := hv.get 11 (by decide) (by simp [hp])
                have HV := Lib.hid (hv.fixE e11 rfl)
                clear hv
                simp only [e11]
                refine wpOp_go rfl rfl (fun K hK => ?_)
                go_simp
                refine hK _ _ ?_
                exact ⟨_, _, rfl, HV.out.new (x := .int .i64 k) rfl, hZ.keep.map (fun ⟨hb0, y16⟩ => ⟨hb0, y16.keep (by decide)⟩), hM0.keep (by decide), hE.mono (by decide), by simp [hz]⟩
              · skip
                have e10 : V 10 = .int .i64 p2 := hv.get 10 (by decide) (by simp [hp])
                have e12 : V 12 = .int .i64 k := hv.get 12 (by decide) (by simp [hp])
                have HV := Lib.hid ((hv.fixE e10 rfl).fixE e12 rfl)
                clear hv
                simp only [e10, e12]
                refine wpOp_go rfl rfl (fun K hK => ?_)
                go_simp
                refine hK _ _ ?_
                exact ⟨_, _, rfl, HV.out.new (x := .int .i64 p3) rfl, hZ.keep.map (fun ⟨hb0, y16⟩ => ⟨hb0, y16.keep (by decide)⟩), hM0.keep (by decide), hE.mono (by decide), by simp [hz]⟩
              · skip
                have e5 : V 5 = .slice (some ⟨bA, fo, none⟩) k c := hv.get 5 (by decide) (by simp [hp])
                have e13 : V 13 = .int .i64 p3 := hv.get 13 (by decide) (by simp [hp])
                have HV := Lib.hid ((hv.fixE e5 rfl).fixE e13 rfl)
                clear hv
                simp only [e5, e13]
                refine wpOp_go rfl rfl (fun K hK => ?_)
                go_simp
                refine hK _ _ ?_
                exact ⟨_, _, rfl, HV.out.new (x := .pointer (some ⟨bA, fo + p3 * 3, none⟩)) rfl, hZ.keep.map (fun ⟨hb0, y16⟩ => ⟨hb0, y16.keep (by decide)⟩), hM0.keep (by decide), hE.mono (by decide), by simp [hz]⟩
              · skip
                have e14 : V 14 = .pointer (some ⟨bA, fo + p3 * 3, none⟩) := hv.get 14 (by decide) (by simp [hp])
                have HV := Lib.hid (hv.fixE e14 rfl)
                clear hv
                simp only [e14]
                have hY := hZ.get (fun h => off hoff (hE.get 16 15 (by decide) (hE.get 18 16 (by decide) h)))
                have z0 := keepc hY.1 c0 hlA; have z1 := keepc hY.1 c1 hlA; have z2 := keepc hY.1 c2 hlA
                refine wpOp_go rfl rfl (fun K hK => ?_)
                go_simp
                refine hK _ _ ?_
                exact ⟨_, _, rfl, HV.out.new (x := .agg #[.int .i64 x, .int .i64 y, .int .i64 z]) rfl, hZ.keep.map (fun ⟨hb0, y16⟩ => ⟨hb0, y16.keep (by decide)⟩), hM0.keep (by decide), hE.mono (by decide), by simp [hz]⟩
              · skip
                have e15 : V 15 = .agg #[.int .i64 x, .int .i64 y, .int .i64 z] := hv.get 15 (by decide) (by simp [hp])
                have HV := Lib.hid (hv.fixE e15 rfl)
                clear hv
                simp only [e15]
                have hY := hZ.get (fun h => off hoff (hE.get 18 16 (by decide) h))
                refine wpOp_go rfl rfl (fun K hK => ?_)
                go_wp2_with (first | (go_at_call 24; refine (HOF.out _).mono ?_; rintro e w3 ⟨E1, E2, E3, rfl, hNN, hb⟩))
                try refine hK _ _ ?_
                exact ⟨_, _, rfl, HV.out.other (by decide), Off.new ⟨hY.1.trans (hb.mono hY.1.size), On.new (⟨E1, E2, E3, rfl, hNN⟩)⟩, fun h => absurd (hE.get 18 16 (by decide) (on_ne h (by decide))) (off hoff), hE.step (by simp [hp]), by simp [hz]⟩
              · skip
                have e3 : V 3 = .slice (some ⟨g, 0, none⟩) n n := hv.get 3 (by decide) (by simp [hp])
                have e4 : V 4 = .int .i64 j := hv.get 4 (by decide) (by simp [hp])
                have HV := Lib.hid ((hv.fixE e3 rfl).fixE e4 rfl)
                clear hv
                simp only [e3, e4]
                refine wpOp_go rfl rfl (fun K hK => ?_)
                go_simp
                refine hK _ _ ?_
                exact ⟨_, _, rfl, HV.out.new (x := .pointer (some ⟨g, j * 5, none⟩)) rfl, hZ.keep.map (fun ⟨hb0, y16⟩ => ⟨hb0, y16.keep (by decide)⟩), hM0.keep (by decide), hE.step (by simp [hp]), by simp [hz]⟩
              · skip
                have e17 : V 17 = .pointer (some ⟨g, j * 5, none⟩) := hv.get 17 (by decide) (by simp [hp])
                have HV := Lib.hid (hv.fixE e17 rfl)
                clear hv
                simp only [e17]
                have hY := hZ.get (off hoff)
                obtain ⟨E1, E2, E3, e1, hNN⟩ := hY.2.get (by simp [hp])
                subst e1
                obtain ⟨⟨u0, u1, u2, u3, u4, d0, d1, d2, d3, d4⟩, ⟨f0, f1, f2, f3, f4⟩, hfin⟩ := hput W' hY.1
                refine wpOp_go rfl rfl (fun K hK => ?_)
                go_simp
                refine hK _ _ ?_
                obtain ⟨XX, hX⟩ : ∃ XX : World, XX = set5o W' g (j * 5) q E1 E2 E3 := ⟨_, rfl⟩
                have hw : set5o W' g (j * 5) q E1 E2 E3 = XX := hX.symm
                unfold set5o at hw
                rw [hw]
                subst hX
                exact ⟨_, _, rfl, HV.out.other (by decide), Off.done (by omega), On.new (hfin (fun _ _ => True) (fillTo F i (j + 1)) _ E1 E2 E3 hNN HNEW.out (fun a b h _ => ⟨trivial, by unfold fillTo; by_cases e : a < i ∨ (a = i ∧ b < j); rw [if_pos e, if_pos (by omega)]; rw [if_neg e, if_neg (by omega)]⟩)), hE.step (by simp [hp]), by simp [hz]⟩
            · intro l a' W' hr hI
              obtain ⟨V, x16, rfl, hv, hZ, hM0, hE, hz⟩ := hI
              have a0 := not_ready (i := 0) hr hz rfl (by simp [Region.binds])
              have a1 := not_ready (i := 1) hr hz rfl (by simp [Region.binds, a0])
              have a2 := not_ready (i := 2) hr hz rfl (by simp [Region.binds, a0, a1])
              have a3 := not_ready (i := 3) hr hz rfl (by simp [Region.binds, a0, a1, a2])
              have a4 := not_ready (i := 4) hr hz rfl (by simp [Region.binds, a0, a1, a2, a3])
              have a5 := not_ready (i := 5) hr hz rfl (by simp [Region.binds, a0, a1, a2, a3, a4])
              have a6 := not_ready (i := 6) hr hz rfl (by simp [Region.binds, a0, a1, a2, a3, a4, a5])
              have a7 := not_ready (i := 7) hr hz rfl (by simp [Region.binds, a0, a1, a2, a3, a4, a5, a6])
              have a8 := not_ready (i := 8) hr hz rfl (by simp [Region.binds, a0, a1, a2, a3, a4, a5, a6, a7])
              have a9 := not_ready (i := 9) hr hz rfl (by simp [Region.binds, a0, a1, a2, a3, a4, a5, a6, a7, a8])
              have a10 := not_ready (i := 10) hr hz rfl (by simp [Region.binds, a0, a1, a2, a3, a4, a5, a6, a7, a8, a9])
              have a11 := not_ready (i := 11) hr hz rfl (by simp [Region.binds, a0, a1, a2, a3, a4, a5, a6, a7, a8, a9, a10])
              have a12 := not_ready (i := 12) hr hz rfl (by simp [Region.binds, a0, a1, a2, a3, a4, a5, a6, a7, a8, a9, a10, a11])
              have a13 := not_ready (i := 13) hr hz rfl (by simp [Region.binds, a0, a1, a2, a3, a4, a5, a6, a7, a8, a9, a10, a11, a12])
              have a14 := not_ready (i := 14) hr hz rfl (by simp [Region.binds, a0, a1, a2, a3, a4, a5, a6, a7, a8, a9, a10, a11, a12, a13])
              have a15 := not_ready (i := 15) hr hz rfl (by simp [Region.binds, a0, a1, a2, a3, a4, a5, a6, a7, a8, a9, a10, a11, a12, a13, a14])
              have a16 := not_ready (i := 16) hr hz rfl (by simp [Region.binds, a0, a1, a2, a3, a4, a5, a6, a7, a8, a9, a10, a11, a12, a13, a14, a15])
              have a17 := not_ready (i := 17) hr hz rfl (by simp [Region.binds, a0, a1, a2, a3, a4, a5, a6, a7, a8, a9, a10, a11, a12, a13, a14, a15, a16])
              have a18 := not_ready (i := 18) hr hz rfl (by simp [Region.binds, a0, a1, a2, a3, a4, a5, a6, a7, a8, a9, a10, a11, a12, a13, a14, a15, a16, a17])
              have hY := hM0.get a18
              clear hr hz hv hZ a0 a1 a2 a3 a4 a5 a6 a7 a8 a9 a10 a11 a12 a13 a14 a15 a16 a17 a18 hM0 hE
              go_wp2_with fail
              go_roundw
              case rel => exact ⟨j + 1, by omega, by go_num, hY⟩
              case measure => simp [intOf]; omega
            · exact ⟨fun zz => List.getD [u31, u32, u33, u34, u35, u36, u37, u38, u39, u40, u41, u42, u43, u44, u45, u46, u47, u48, undef] zz undef, _, rfl, OnFix.start, Off.new ⟨((Below.refl _ _).drew), fun h => absurd h (by decide)⟩, fun h => absurd h (by decide), Edg.start, by simp⟩
        · obtain rfl : j = n := by omega
          have hst := hB.cong (D' := fun _ _ => True) (f' := F) (fun a b ha hb _ => ⟨trivial, (if_pos (by omega)).symm⟩)
          have HST := Lib.hid hst
          clear hst hB
          go_wp2_with fail
          go_roundw
          case rel => exact ⟨i + 1, by omega, by go_num, HST.out⟩
          case measure => simp [intOf]; omega
    · obtain rfl : i = n := by omega
      go_wp2_with fail
      go_ret
      exact ⟨_, rfl, WkP.ofMk hB (fun _ _ => trivial) (fun h => h)⟩
end Go.Proofs.Ytdpjknjlhchmcaa

namespace Go.Proofs.Ytdpjknjlhchmcaa
open Go.RowKit Pl
set_option linter.unusedVariables false
set_option linter.unusedSimpArgs false
/-- A list of numbers in memory. -/
def NumsP (w : World) (A : Option Addr) (n : Nat) (q : Nat → Cx) : Prop := ∀ j, j < n → ∃ g, A = some ⟨g, 0, none⟩ ∧ PE w g (j * 5) (q j)
theorem NumsP.to {w w' : World} {A : Option Addr} {n : Nat} {q : Nat → Cx} (h : NumsP w A n q) (hb : Below w.heap.size w w') : NumsP w' A n q := by
  intro j hj; obtain ⟨g, e, p⟩ := h j hj; exact ⟨g, e, p.to hb⟩
/-- A slice of one list is a matrix of one row. -/
theorem NumsP.one {w : World} {B : Option Addr} {n c : Nat} {q : Nat → Cx} {T : TypeId} (h : NumsP w B n q) : MatP (w.alloc (.cells #[.slice B n c] T)) (some ⟨w.heap.size, 0, none⟩) 1 (fun _ => n) (fun _ i => q i) := by
  have hb : Below w.heap.size w (w.alloc (.cells #[.slice B n c] T)) := (Below.refl _ _).alloc (Nat.le_refl _) _
  refine ⟨fun _ => B, fun _ => c, fun i hi => ⟨w.heap.size, 0, rfl, by simp, ?_⟩, fun i hi j hj => ?_⟩
  · obtain rfl : i = 0 := by omega
    go_simp
  · obtain ⟨g, e, p⟩ := h j hj; exact ⟨g, e, p.to hb⟩
/-- The last d numbers of a row of n are computed. -/
def PartX (w : World) (g n d : Nat) (x : Nat → Cx) : Prop := (0 < n → RowB w g 34 (n * 5)) ∧ ∀ i, i < n → n - d ≤ i → PE w g (i * 5) (x i)
theorem PartX.to {w w' : World} {g n d : Nat} {x : Nat → Cx} (h : PartX w g n d x) (hb : Below w.heap.size w w') : PartX w' g n d x := ⟨fun h0 => (h.1 h0).to hb, fun i hi hd => (h.2 i hi hd).to hb⟩
/-- A number more. -/
theorem PartX.put {W : World} {g n d : Nat} {x : Nat → Cx} (h : PartX W g n d x) (hd : d < n) :
    g < W.heap.size ∧ ∀ w, Below W.heap.size W w →
      (∃ u0 u1 u2 u3 u4, w.cell? ⟨g, (n - 1 - d) * 5, none⟩ = some u0 ∧ w.cell? ⟨g, (n - 1 - d) * 5 + 1, none⟩ = some u1 ∧ w.cell? ⟨g, (n - 1 - d) * 5 + 2, none⟩ = some u2 ∧ w.cell? ⟨g, (n - 1 - d) * 5 + 3, none⟩ = some u3 ∧ w.cell? ⟨g, (n - 1 - d) * 5 + 4, none⟩ = some u4) ∧
      (w.frozen? ⟨g, (n - 1 - d) * 5, none⟩ = false ∧ w.frozen? ⟨g, (n - 1 - d) * 5 + 1, none⟩ = false ∧ w.frozen? ⟨g, (n - 1 - d) * 5 + 2, none⟩ = false ∧ w.frozen? ⟨g, (n - 1 - d) * 5 + 3, none⟩ = false ∧ w.frozen? ⟨g, (n - 1 - d) * 5 + 4, none⟩ = false) ∧
      ∀ (x' : Nat → Cx) (q : Cx) (A1 A2 A3 : Option Addr), Num3 w A1 A2 A3 q → x' (n - 1 - d) = q → (∀ i, i < n → n - d ≤ i → x' i = x i) → PartX (set5o w g ((n - 1 - d) * 5) q A1 A2 A3) g n (d + 1) x' := by
  have hl := (h.1 (by omega)).lt
  refine ⟨hl, fun w hb => ?_⟩
  have h' := h.to hb
  obtain ⟨⟨F, q1⟩, c, q2⟩ := h'.1 (by omega)
  refine ⟨⟨_, _, _, _, _, q1.cell (by omega), q1.cell (by omega), q1.cell (by omega), q1.cell (by omega), q1.cell (by omega)⟩, ⟨q1.frozen _, q1.frozen _, q1.frozen _, q1.frozen _, q1.frozen _⟩, fun x' q A1 A2 A3 hq hf hD => ⟨fun h0 => (h'.1 h0).set5o, fun i hi hd2 => ?_⟩⟩
  by_cases e : i = n - 1 - d
  · subst e
    rw [hf]
    exact pe_set q1 (by omega) q2 hq
  · rw [hD i hi (by omega)]
    exact (h'.2 i hi (by omega)).set5o (.inr (by omega)) q2
/-- Sizes of what is computed. -/
def xb (B : Nat) : Nat → Nat
  | 0 => 1
  | d + 1 => 4 * xb B d + 8 * B + 30
end Go.Proofs.Ytdpjknjlhchmcaa

namespace Go.Proofs.Ytdpjknjlhchmcaa
open Go.RowKit Pl
set_option linter.unusedVariables false
set_option linter.unusedSimpArgs false
/-- A new matrix, its rows made one by one. -/
def RetMk (w : World) (n : Nat) (f : Nat → Nat → Cx) (e : Ending) (w' : World) : Prop := ∃ b gO, e = .returned (.slice (some ⟨gO, 0, none⟩) n n) ∧ Below w.heap.size w b ∧ MkP b gO n n n (fun _ _ => True) f w'
/-- A new row. -/
def RowN (z : Nat) (w : World) (u : Value) (c : Nat) (q : Cx) : Prop := ∃ g, u = .slice (some ⟨g, 0, none⟩) c c ∧ z ≤ g ∧ g < w.heap.size ∧ RowB w g 34 (c * 5) ∧ ∀ k, k < c → PE w g (k * 5) q
theorem RowN.to {z c : Nat} {w w' : World} {u : Value} {q : Cx} (h : RowN z w u c q) (hb : Below w.heap.size w w') : RowN z w' u c q := by
  obtain ⟨g, e, h1, h2, h3, h4⟩ := h; exact ⟨g, e, h1, Nat.lt_of_lt_of_le h2 hb.size, h3.to hb, fun k hk => (h4 k hk).to hb⟩
/-- The identity but for row i. -/
def id0 (i a b : Nat) : Cx := if a = i then Cx.ofInt 0 else idm a b
theorem id0_at {i a b : Nat} (h : ¬ (a = i ∧ b = i)) : idm a b = id0 i a b := by
  unfold id0
  by_cases e : a = i
  · subst e
    rw [if_pos rfl]
    exact if_neg (fun e2 => h ⟨rfl, e2.symm⟩)
  · rw [if_neg e]
set_option maxRecDepth 100000 in
set_option maxHeartbeats 40000000 in
theorem identity_mk (w : World) (n : Int) : Calls Try.prog 19 #[.int .i64 n] w (RetMk w (idn n) idm) := by
  obtain ⟨d, hd⟩ : ∃ d, d = idn n := ⟨_, rfl⟩
  rw [← hd]
  have hd2 : d ≤ 32 := by rw [hd]; unfold idn; split <;> (try split) <;> omega
  have hmx : min (max n 0) 32 = (d : Int) := by rw [hd]; unfold idn; split <;> (try split) <;> omega
  have hmk := mk_nums2 d (by omega)
  have hm_Of : ∀ (k : Nat) (v1 v2 v3 v4 v5 : Value) (w : World), (method (k + 1) 34 (.agg #[v1, v2, v3, v4, v5]) "Of").run Try.prog w = .ok (112, .agg #[v1, v2, v3, v4, v5]) w := fun _ _ _ _ _ _ _ => by kernel_rfl
  clear hd
  go_enter Try.func19, Try.ntmps19
  go_upto_region 3 with fail
  clear hmk hmx
  obtain ⟨g3, hg3⟩ : ∃ g, g = w.heap.size := ⟨_, rfl⟩
  obtain ⟨w1, hw1⟩ : ∃ w1 : World, w1 = w.alloc (.cells #[.bool false, .slice none 0 0, .bool false, .slice none 0 0, .slice none 0 0] 34) := ⟨_, rfl⟩
  have hb1 : Below w.heap.size w w1 := by rw [hw1]; exact (Below.refl _ _).alloc (Nat.le_refl _) _
  have ht : C5 w1 g3 (.bool false) (.slice none 0 0) (.bool false) (.slice none 0 0) (.slice none 0 0) := by subst hw1 hg3; exact ⟨by go_simp, by go_simp, by go_simp, by go_simp, by go_simp⟩
  have hl3 : g3 < w1.heap.size := by subst hw1 hg3; simp
  have hB0 : MkP w1 w1.heap.size d d 0 (fun _ _ => True) idm (mkS w1 d 42) := MkP.new
  have es : g3 + 1 = w1.heap.size := by rw [hw1, hg3]; simp
  rw [← hg3, ← hw1, es]
  have HB1 := Lib.hid hb1
  have HT := Lib.hid (And.intro ht hl3)
  clear hb1 hw1 hg3 ht hl3 es
  generalize mkS w1 d 42 = W0 at *
  obtain ⟨gO, hgO⟩ : ∃ g, g = w1.heap.size := ⟨_, rfl⟩
  rw [← hgO] at hB0 ⊢
  clear hgO
  go_wp2_with fail
  go_loopw [12] (fun i (wr : World) => ∃ k : Nat, k ≤ d ∧ i = .int .i64 k ∧ MkP w1 gO d d k (fun _ _ => True) idm wr) (fun i _ => d - (intOf i).toNat)
  case atStart => exact ⟨0, Nat.zero_le _, rfl, hB0⟩
  case round =>
    obtain ⟨i, hi, rfl, hB⟩ := hrel
    clear hB0
    by_cases hlt : i < d
    · obtain ⟨ht, hl3⟩ := HT.out
      replace ht := ht.to hB.below hl3
      replace hl3 := Nat.lt_of_lt_of_le hl3 hB.below.size
      have i1 : (0 : Int) ≤ (i : Int) := by omega
      have i2 : (i : Int) < (d : Int) := by omega
      have HBB := Lib.hid hB
      clear hB
      go_upto_region 6 with fail
      refine wp_region_any (by kernel_rfl) ?_
      refine wpAny_inv (fun l a' w' => ∃ V : Nat → Value, ∃ x4 x5 x6 x9 : Value, a' = ⟨#[.int .i64 n, undef, .slice none 0 0, .pointer (some ⟨g3, 0, none⟩), .slice (some ⟨gO, 0, none⟩) d d, .int .i64 ↑i, .int .i64 n, .int .i64 (max n 0), .int .i64 ↑d, .slice (some ⟨gO, 0, none⟩) d d, .slice (some ⟨gO, 0, none⟩) d d, .int .i64 ↑d, .int .i64 ↑i, .bool true, .int .i64 ↑i, V 0, V 1, V 2, V 3, x4, x5, x6, V 7, V 8, x9, V 10, u26, u27, u28, u29, u30, u31, u32, u33, u34, u35, u36, undef], []⟩ ∧ OnFix l V (fun zz => List.getD [.slice (some ⟨gO, 0, none⟩) d d, .int .i64 i, .agg #[.bool false, .slice none 0 0, .bool false, .slice none 0 0, .slice none 0 0], .iface 34 (.agg #[.bool false, .slice none 0 0, .bool false, .slice none 0 0, .slice none 0 0]), undef, undef, undef, .slice (some ⟨gO, 0, none⟩) d d, .int .i64 d, undef, .pointer (some ⟨gO, i, none⟩), undef] zz undef) [0, 1, 2, 3, 7, 8, 10] ∧ Off l 11 (Below wr.heap.size wr w' ∧ On l 4 (SlotNum w' x4 (Cx.ofInt 0)) ∧ On l 5 (SlotNum w' x5 (Cx.ofInt 0)) ∧ On l 6 (BoxN wr.heap.size w' x6 (Cx.ofInt 0)) ∧ On l 9 (RowN wr.heap.size w' x9 d (Cx.ofInt 0))) ∧ On l 11 (MkP w1 gO d d (i + 1) (fun _ _ => True) (id0 i) w') ∧ Edg l [(11, 9), (9, 6), (6, 5), (5, 3), (3, 2), (5, 4)] ∧ l.size = 12) ?_ ?_ _ _ _ _ (by decide) ?_
      · intro l a' W' i hi hI
        obtain ⟨V, x4, x5, x6, x9, rfl, hv, hZ, hM0, hE, hz⟩ := hI
        obtain ⟨hlt, hoff, hpre⟩ := ready_pre hi
        have hc : i ∈ [0, 1, 2, 3, 4, 5, 6, 7, 8, 9, 10, 11] := (by decide : ∀ i, i < 12 → i ∈ [0, 1, 2, 3, 4, 5, 6, 7, 8, 9, 10, 11]) i hlt
        simp only [List.mem_cons, List.not_mem_nil, or_false] at hc
        clear hi hlt
        rcases hc with rfl | rfl | rfl | rfl | rfl | rfl | rfl | rfl | rfl | rfl | rfl | rfl <;> (have hp := hpre _ rfl; simp [Region.binds] at hp; clear hpre)
        · skip
          have HV := Lib.hid hv
          clear hv
          refine wpOp_go rfl rfl (fun K hK => ?_)
          go_simp
          refine hK _ _ ?_
          exact ⟨_, _, _, _, _, rfl, HV.out.new (x := .slice (some ⟨gO, 0, none⟩) d d) rfl, hZ.keep.map (fun ⟨hb0, y4, y5, y6, y9⟩ => ⟨hb0, y4.keep (by decide), y5.keep (by decide), y6.keep (by decide), y9.keep (by decide)⟩), hM0.keep (by decide), hE.mono (by decide), by simp [hz]⟩
        · skip
          have HV := Lib.hid hv
          clear hv
          refine wpOp_go rfl rfl (fun K hK => ?_)
          go_simp
          refine hK _ _ ?_
          exact ⟨_, _, _, _, _, rfl, HV.out.new (x := .int .i64 i) rfl, hZ.keep.map (fun ⟨hb0, y4, y5, y6, y9⟩ => ⟨hb0, y4.keep (by decide), y5.keep (by decide), y6.keep (by decide), y9.keep (by decide)⟩), hM0.keep (by decide), hE.mono (by decide), by simp [hz]⟩
        · skip
          have HV := Lib.hid hv
          clear hv
          have hY := hZ.get (fun h => off hoff (hE.get 3 2 (by decide) (hE.get 5 3 (by decide) (hE.get 6 5 (by decide) (hE.get 9 6 (by decide) (hE.get 11 9 (by decide) h))))))
          obtain ⟨z0, z1, z2, z3, z4⟩ := ht
          have y0 := keepc hY.1 z0 hl3; have y1 := keepc hY.1 z1 hl3; have y2 := keepc hY.1 z2 hl3; have y3 := keepc hY.1 z3 hl3; have y4 := keepc hY.1 z4 hl3
          refine wpOp_go rfl rfl (fun K hK => ?_)
          go_simp
          refine hK _ _ ?_
          exact ⟨_, _, _, _, _, rfl, HV.out.new (x := .agg #[.bool false, .slice none 0 0, .bool false, .slice none 0 0, .slice none 0 0]) rfl, hZ.keep.map (fun ⟨hb0, y4, y5, y6, y9⟩ => ⟨hb0, y4.keep (by decide), y5.keep (by decide), y6.keep (by decide), y9.keep (by decide)⟩), hM0.keep (by decide), hE.mono (by decide), by simp [hz]⟩
        · skip
          have e2 : V 2 = .agg #[.bool false, .slice none 0 0, .bool false, .slice none 0 0, .slice none 0 0] := hv.get 2 (by decide) (by simp [hp])
          have HV := Lib.hid (hv.fixE e2 rfl)
          clear hv
          simp only [e2]
          refine wpOp_go rfl rfl (fun K hK => ?_)
          go_simp
          refine hK _ _ ?_
          exact ⟨_, _, _, _, _, rfl, HV.out.new (x := .iface 34 (.agg #[.bool false, .slice none 0 0, .bool false, .slice none 0 0, .slice none 0 0])) rfl, hZ.keep.map (fun ⟨hb0, y4, y5, y6, y9⟩ => ⟨hb0, y4.keep (by decide), y5.keep (by decide), y6.keep (by decide), y9.keep (by decide)⟩), hM0.keep (by decide), hE.step (by simp [hp]), by simp [hz]⟩
        · skip
          have HV := Lib.hid hv
          clear hv
          have hY := hZ.get (fun h => off hoff (hE.get 5 4 (by decide) (hE.get 6 5 (by decide) (hE.get 9 6 (by decide) (hE.get 11 9 (by decide) h)))))
          refine wpOp_go rfl rfl (fun K hK => ?_)
          go_wp2_with (first | (go_at_call 31; refine (int_any 0 _ (by omega) (by omega)).mono ?_; rintro e w3 ⟨E1, E2, E3, rfl, hN, hb⟩))
          try refine hK _ _ ?_
          exact ⟨_, _, _, _, _, rfl, HV.out.other (by decide), Off.new ⟨hY.1.trans (hb.mono hY.1.size), On.new (⟨E1, E2, E3, rfl, hN⟩), ((hY.2.2.1).keep (by decide)).map (fun h => h.to hb), ((hY.2.2.2.1).keep (by decide)).map (fun h => h.to hb), ((hY.2.2.2.2).keep (by decide)).map (fun h => h.to hb)⟩, fun h => absurd (hE.get 5 4 (by decide) (hE.get 6 5 (by decide) (hE.get 9 6 (by decide) (hE.get 11 9 (by decide) (on_ne h (by decide)))))) (off hoff), hE.mono (by decide), by simp [hz]⟩
        · skip
          have e3 : V 3 = .iface 34 (.agg #[.bool false, .slice none 0 0, .bool false, .slice none 0 0, .slice none 0 0]) := hv.get 3 (by decide) (by simp [hp])
          have HV := Lib.hid (hv.fixE e3 rfl)
          clear hv
          simp only [e3]
          have hY := hZ.get (fun h => off hoff (hE.get 6 5 (by decide) (hE.get 9 6 (by decide) (hE.get 11 9 (by decide) h))))
          obtain ⟨G1, G2, G3, e0, hM⟩ := hY.2.1.get (by simp [hp])
          subst e0
          refine wpOp_go rfl rfl (fun K hK => ?_)
          go_wp2_with (first | (go_at_call 112; refine (of_five _ _ _ _ _ (Cx.ofInt 0) G1 G2 G3 _ hM rfl rfl rfl rfl rfl).mono ?_; rintro e w3 ⟨E1, E2, E3, rfl, hN, hb⟩))
          try refine hK _ _ ?_
          exact ⟨_, _, _, _, _, rfl, HV.out.other (by decide), Off.new ⟨hY.1.trans (hb.mono hY.1.size), ((hY.2.1).keep (by decide)).map (fun h => h.to hb), On.new (⟨E1, E2, E3, rfl, hN⟩), ((hY.2.2.2.1).keep (by decide)).map (fun h => h.to hb), ((hY.2.2.2.2).keep (by decide)).map (fun h => h.to hb)⟩, fun h => absurd (hE.get 6 5 (by decide) (hE.get 9 6 (by decide) (hE.get 11 9 (by decide) (on_ne h (by decide))))) (off hoff), hE.step (by simp [hp]), by simp [hz]⟩
        · skip
          have HV := Lib.hid hv
          clear hv
          have hY := hZ.get (fun h => off hoff (hE.get 9 6 (by decide) (hE.get 11 9 (by decide) h)))
          obtain ⟨E1, E2, E3, e0, hN⟩ := hY.2.2.1.get (by simp [hp])
          subst e0
          refine wpOp_go rfl rfl (fun K hK => ?_)
          go_simp
          refine hK _ _ ?_
          exact ⟨_, _, _, _, _, rfl, HV.out.other (by decide), Off.new ⟨hY.1.trans (((Below.refl _ _).alloc (Nat.le_refl _) _).mono hY.1.size), ((hY.2.1).keep (by decide)).map (fun h => h.to ((Below.refl _ _).alloc (Nat.le_refl _) _)), ((hY.2.2.1).keep (by decide)).map (fun h => h.to ((Below.refl _ _).alloc (Nat.le_refl _) _)), On.new (BoxN.new hN hY.1.size), ((hY.2.2.2.2).keep (by decide)).map (fun h => h.to ((Below.refl _ _).alloc (Nat.le_refl _) _))⟩, fun h => absurd (hE.get 9 6 (by decide) (hE.get 11 9 (by decide) (on_ne h (by decide)))) (off hoff), hE.step (by simp [hp]), by simp [hz]⟩
        · skip
          have HV := Lib.hid hv
          clear hv
          refine wpOp_go rfl rfl (fun K hK => ?_)
          go_simp
          refine hK _ _ ?_
          exact ⟨_, _, _, _, _, rfl, HV.out.new (x := .slice (some ⟨gO, 0, none⟩) d d) rfl, hZ.keep.map (fun ⟨hb0, y4, y5, y6, y9⟩ => ⟨hb0, y4.keep (by decide), y5.keep (by decide), y6.keep (by decide), y9.keep (by decide)⟩), hM0.keep (by decide), hE.mono (by decide), by simp [hz]⟩
        · skip
          have e7 : V 7 = .slice (some ⟨gO, 0, none⟩) d d := hv.get 7 (by decide) (by simp [hp])
          have HV := Lib.hid (hv.fixE e7 rfl)
          clear hv
          simp only [e7]
          refine wpOp_go rfl rfl (fun K hK => ?_)
          go_simp
          refine hK _ _ ?_
          exact ⟨_, _, _, _, _, rfl, HV.out.new (x := .int .i64 d) rfl, hZ.keep.map (fun ⟨hb0, y4, y5, y6, y9⟩ => ⟨hb0, y4.keep (by decide), y5.keep (by decide), y6.keep (by decide), y9.keep (by decide)⟩), hM0.keep (by decide), hE.mono (by decide), by simp [hz]⟩
        · skip
          have e8 : V 8 = .int .i64 d := hv.get 8 (by decide) (by simp [hp])
          have HV := Lib.hid (hv.fixE e8 rfl)
          clear hv
          simp only [e8]
          have hY := hZ.get (fun h => off hoff (hE.get 11 9 (by decide) h))
          obtain ⟨bb, e0, hpe, hbb⟩ := hY.2.2.2.1.get (by simp [hp])
          subst e0
          refine wpOp_go rfl rfl (fun K hK => ?_)
          go_wp2_with (first | (go_at_call 48; refine (repeat_any _ bb d (Cx.ofInt 0) hpe (by omega) (by omega)).mono ?_; rintro e w3 ⟨gr, rfl, hgr, hrB, hrP, hb⟩))
          try refine hK _ _ ?_
          exact ⟨_, _, _, _, _, rfl, HV.out.other (by decide), Off.new ⟨hY.1.trans (hb.mono hY.1.size), ((hY.2.1).keep (by decide)).map (fun h => h.to hb), ((hY.2.2.1).keep (by decide)).map (fun h => h.to hb), ((hY.2.2.2.1).keep (by decide)).map (fun h => h.to hb), On.new (⟨gr, rfl, Nat.le_trans hY.1.size hgr, hrB.lt, hrB, hrP⟩)⟩, fun h => absurd (hE.get 11 9 (by decide) (on_ne h (by decide))) (off hoff), hE.step (by simp [hp]), by simp [hz]⟩
        · skip
          have e0 : V 0 = .slice (some ⟨gO, 0, none⟩) d d := hv.get 0 (by decide) (by simp [hp])
          have e1 : V 1 = .int .i64 i := hv.get 1 (by decide) (by simp [hp])
          have HV := Lib.hid ((hv.fixE e0 rfl).fixE e1 rfl)
          clear hv
          simp only [e0, e1]
          refine wpOp_go rfl rfl (fun K hK => ?_)
          go_simp
          refine hK _ _ ?_
          exact ⟨_, _, _, _, _, rfl, HV.out.new (x := .pointer (some ⟨gO, i, none⟩)) rfl, hZ.keep.map (fun ⟨hb0, y4, y5, y6, y9⟩ => ⟨hb0, y4.keep (by decide), y5.keep (by decide), y6.keep (by decide), y9.keep (by decide)⟩), hM0.keep (by decide), hE.mono (by decide), by simp [hz]⟩
        · skip
          have e10 : V 10 = .pointer (some ⟨gO, i, none⟩) := hv.get 10 (by decide) (by simp [hp])
          have HV := Lib.hid (hv.fixE e10 rfl)
          clear hv
          simp only [e10]
          have hY := hZ.get (off hoff)
          obtain ⟨gr, e0, hgr, hgl, hrB, hrP⟩ := hY.2.2.2.2.get (by simp [hp])
          subst e0
          obtain ⟨v0, m1, m2⟩ := (HBB.out.to hY.1).at hlt
          refine wpOp_go rfl rfl (fun K hK => ?_)
          go_simp
          refine hK _ _ ?_
          exact ⟨_, _, _, _, _, rfl, HV.out.other (by decide), Off.done (by omega), On.new ((HBB.out.cong (D' := fun _ _ => True) (f' := id0 i) (fun a b ha _ _ => ⟨trivial, if_neg (by omega)⟩)).rowR hlt hY.1 hgr hgl (fun _ => hrB) (fun k hk _ => by rw [show id0 i i k = Cx.ofInt 0 from if_pos rfl]; exact hrP k hk)), hE.step (by simp [hp]), by simp [hz]⟩
      · intro l a' W' hr hI
        obtain ⟨V, x4, x5, x6, x9, rfl, hv, hZ, hM0, hE, hz⟩ := hI
        have a0 := not_ready (i := 0) hr hz rfl (by simp [Region.binds])
        have a1 := not_ready (i := 1) hr hz rfl (by simp [Region.binds, a0])
        have a2 := not_ready (i := 2) hr hz rfl (by simp [Region.binds, a0, a1])
        have a3 := not_ready (i := 3) hr hz rfl (by simp [Region.binds, a0, a1, a2])
        have a4 := not_ready (i := 4) hr hz rfl (by simp [Region.binds, a0, a1, a2, a3])
        have a5 := not_ready (i := 5) hr hz rfl (by simp [Region.binds, a0, a1, a2, a3, a4])
        have a6 := not_ready (i := 6) hr hz rfl (by simp [Region.binds, a0, a1, a2, a3, a4, a5])
        have a7 := not_ready (i := 7) hr hz rfl (by simp [Region.binds, a0, a1, a2, a3, a4, a5, a6])
        have a8 := not_ready (i := 8) hr hz rfl (by simp [Region.binds, a0, a1, a2, a3, a4, a5, a6, a7])
        have a9 := not_ready (i := 9) hr hz rfl (by simp [Region.binds, a0, a1, a2, a3, a4, a5, a6, a7, a8])
        have a10 := not_ready (i := 10) hr hz rfl (by simp [Region.binds, a0, a1, a2, a3, a4, a5, a6, a7, a8, a9])
        have a11 := not_ready (i := 11) hr hz rfl (by simp [Region.binds, a0, a1, a2, a3, a4, a5, a6, a7, a8, a9, a10])
        have hY := hM0.get a11
        clear hr hz hv hZ a0 a1 a2 a3 a4 a5 a6 a7 a8 a9 a10 a11 hM0 hE
        go_wp2_with fail
        obtain ⟨g, hg1, hg2, hg3, _, hput⟩ := hY.put hlt (Nat.lt_succ_self i) hlt
        obtain ⟨ht, hl3⟩ := HT.out
        replace ht := ht.to hY.below hl3
        replace hl3 := Nat.lt_of_lt_of_le hl3 hY.below.size
        clear HBB
        obtain ⟨Wz, hWz⟩ : ∃ X : World, X = W' := ⟨_, rfl⟩
        rw [← hWz] at hput hg1 hg2 hg3 ht hl3 ⊢
        clear hWz hY
        go_upto_region 7 with fail
        refine wp_region_any (by kernel_rfl) ?_
        refine wpAny_inv (fun l a' w' => ∃ V2 : Nat → Value, ∃ x7 x8 : Value, a' = ⟨#[.int .i64 n, undef, .slice none 0 0, .pointer (some ⟨g3, 0, none⟩), .slice (some ⟨gO, 0, none⟩) d d, .int .i64 ↑i, .int .i64 n, .int .i64 (max n 0), .int .i64 ↑d, .slice (some ⟨gO, 0, none⟩) d d, .slice (some ⟨gO, 0, none⟩) d d, .int .i64 ↑d, .int .i64 ↑i, .bool true, .int .i64 ↑i, V 0, V 1, V 2, V 3, x4, x5, x6, V 7, V 8, x9, V 10, V2 0, V2 1, V2 2, V2 3, V2 4, V2 5, V2 6, x7, x8, V2 9, u36, undef], []⟩ ∧ OnFix l V2 (fun zz => List.getD [.slice (some ⟨gO, 0, none⟩) d d, .int .i64 i, .pointer (some ⟨gO, i, none⟩), .slice (some ⟨g, 0, none⟩) d d, .int .i64 i, .agg #[.bool false, .slice none 0 0, .bool false, .slice none 0 0, .slice none 0 0], .iface 34 (.agg #[.bool false, .slice none 0 0, .bool false, .slice none 0 0, .slice none 0 0]), undef, undef, .pointer (some ⟨g, i * 5, none⟩), undef] zz undef) [0, 1, 2, 3, 4, 5, 6, 9] ∧ Off l 10 (Below Wz.heap.size Wz w' ∧ On l 7 (SlotNum w' x7 (Cx.ofInt 1)) ∧ On l 8 (SlotNum w' x8 (Cx.ofInt 1))) ∧ On l 10 (MkP w1 gO d d (i + 1) (fun _ _ => True) idm w') ∧ Edg l [(10, 9), (9, 3), (10, 8), (8, 6), (6, 5), (8, 7)] ∧ l.size = 11) ?_ ?_ _ _ _ _ (by decide) ?_
        · intro l a' W' i hi hI
          obtain ⟨V2, x7, x8, rfl, hv, hZ, hM0, hE, hz⟩ := hI
          obtain ⟨hlt, hoff, hpre⟩ := ready_pre hi
          have hc : i ∈ [0, 1, 2, 3, 4, 5, 6, 7, 8, 9, 10] := (by decide : ∀ i, i < 11 → i ∈ [0, 1, 2, 3, 4, 5, 6, 7, 8, 9, 10]) i hlt
          simp only [List.mem_cons, List.not_mem_nil, or_false] at hc
          clear hi hlt
          rcases hc with rfl | rfl | rfl | rfl | rfl | rfl | rfl | rfl | rfl | rfl | rfl <;> (have hp := hpre _ rfl; simp [Region.binds] at hp; clear hpre)
          · skip
            have HV := Lib.hid hv
            clear hv
            refine wpOp_go rfl rfl (fun K hK => ?_)
            go_simp
            refine hK _ _ ?_
            exact ⟨_, _, _, rfl, HV.out.new (x := .slice (some ⟨gO, 0, none⟩) d d) rfl, hZ.keep.map (fun ⟨hb0, y7, y8⟩ => ⟨hb0, y7.keep (by decide), y8.keep (by decide)⟩), hM0.keep (by decide), hE.mono (by decide), by simp [hz]⟩
          · skip
            have HV := Lib.hid hv
            clear hv
            refine wpOp_go rfl rfl (fun K hK => ?_)
            go_simp
            refine hK _ _ ?_
            exact ⟨_, _, _, rfl, HV.out.new (x := .int .i64 i) rfl, hZ.keep.map (fun ⟨hb0, y7, y8⟩ => ⟨hb0, y7.keep (by decide), y8.keep (by decide)⟩), hM0.keep (by decide), hE.mono (by decide), by simp [hz]⟩
          · skip
            have e0 : V2 0 = .slice (some ⟨gO, 0, none⟩) d d := hv.get 0 (by decide) (by simp [hp])
            have e1 : V2 1 = .int .i64 i := hv.get 1 (by decide) (by simp [hp])
            have HV := Lib.hid ((hv.fixE e0 rfl).fixE e1 rfl)
            clear hv
            simp only [e0, e1]
            refine wpOp_go rfl rfl (fun K hK => ?_)
            go_simp
            refine hK _ _ ?_
            exact ⟨_, _, _, rfl, HV.out.new (x := .pointer (some ⟨gO, i, none⟩)) rfl, hZ.keep.map (fun ⟨hb0, y7, y8⟩ => ⟨hb0, y7.keep (by decide), y8.keep (by decide)⟩), hM0.keep (by decide), hE.mono (by decide), by simp [hz]⟩
          · skip
            have e2 : V2 2 = .pointer (some ⟨gO, i, none⟩) := hv.get 2 (by decide) (by simp [hp])
            have HV := Lib.hid (hv.fixE e2 rfl)
            clear hv
            simp only [e2]
            have hY := hZ.get (fun h => off hoff (hE.get 9 3 (by decide) (hE.get 10 9 (by decide) h)))
            have z := keepc hY.1 hg1 hg2
            refine wpOp_go rfl rfl (fun K hK => ?_)
            go_simp
            refine hK _ _ ?_
            exact ⟨_, _, _, rfl, HV.out.new (x := .slice (some ⟨g, 0, none⟩) d d) rfl, hZ.keep.map (fun ⟨hb0, y7, y8⟩ => ⟨hb0, y7.keep (by decide), y8.keep (by decide)⟩), hM0.keep (by decide), hE.mono (by decide), by simp [hz]⟩
          · skip
            have HV := Lib.hid hv
            clear hv
            refine wpOp_go rfl rfl (fun K hK => ?_)
            go_simp
            refine hK _ _ ?_
            exact ⟨_, _, _, rfl, HV.out.new (x := .int .i64 i) rfl, hZ.keep.map (fun ⟨hb0, y7, y8⟩ => ⟨hb0, y7.keep (by decide), y8.keep (by decide)⟩), hM0.keep (by decide), hE.mono (by decide), by simp [hz]⟩
          · skip
            have HV := Lib.hid hv
            clear hv
            have hY := hZ.get (fun h => off hoff (hE.get 6 5 (by decide) (hE.get 8 6 (by decide) (hE.get 10 8 (by decide) h))))
            obtain ⟨z0, z1, z2, z3, z4⟩ := ht
            have y0 := keepc hY.1 z0 hl3; have y1 := keepc hY.1 z1 hl3; have y2 := keepc hY.1 z2 hl3; have y3 := keepc hY.1 z3 hl3; have y4 := keepc hY.1 z4 hl3
            refine wpOp_go rfl rfl (fun K hK => ?_)
            go_simp
            refine hK _ _ ?_
            exact ⟨_, _, _, rfl, HV.out.new (x := .agg #[.bool false, .slice none 0 0, .bool false, .slice none 0 0, .slice none 0 0]) rfl, hZ.keep.map (fun ⟨hb0, y7, y8⟩ => ⟨hb0, y7.keep (by decide), y8.keep (by decide)⟩), hM0.keep (by decide), hE.mono (by decide), by simp [hz]⟩
          · skip
            have e5 : V2 5 = .agg #[.bool false, .slice none 0 0, .bool false, .slice none 0 0, .slice none 0 0] := hv.get 5 (by decide) (by simp [hp])
            have HV := Lib.hid (hv.fixE e5 rfl)
            clear hv
            simp only [e5]
            refine wpOp_go rfl rfl (fun K hK => ?_)
            go_simp
            refine hK _ _ ?_
            exact ⟨_, _, _, rfl, HV.out.new (x := .iface 34 (.agg #[.bool false, .slice none 0 0, .bool false, .slice none 0 0, .slice none 0 0])) rfl, hZ.keep.map (fun ⟨hb0, y7, y8⟩ => ⟨hb0, y7.keep (by decide), y8.keep (by decide)⟩), hM0.keep (by decide), hE.step (by simp [hp]), by simp [hz]⟩
          · skip
            have HV := Lib.hid hv
            clear hv
            have hY := hZ.get (fun h => off hoff (hE.get 8 7 (by decide) (hE.get 10 8 (by decide) h)))
            refine wpOp_go rfl rfl (fun K hK => ?_)
            go_wp2_with (first | (go_at_call 31; refine (int_any 1 _ (by omega) (by omega)).mono ?_; rintro e w3 ⟨E1, E2, E3, rfl, hN, hb⟩))
            try refine hK _ _ ?_
            exact ⟨_, _, _, rfl, HV.out.other (by decide), Off.new ⟨hY.1.trans (hb.mono hY.1.size), On.new (⟨E1, E2, E3, rfl, hN⟩), ((hY.2.2).keep (by decide)).map (fun h => h.to hb)⟩, fun h => absurd (hE.get 8 7 (by decide) (hE.get 10 8 (by decide) (on_ne h (by decide)))) (off hoff), hE.mono (by decide), by simp [hz]⟩
          · skip
            have e6 : V2 6 = .iface 34 (.agg #[.bool false, .slice none 0 0, .bool false, .slice none 0 0, .slice none 0 0]) := hv.get 6 (by decide) (by simp [hp])
            have HV := Lib.hid (hv.fixE e6 rfl)
            clear hv
            simp only [e6]
            have hY := hZ.get (fun h => off hoff (hE.get 10 8 (by decide) h))
            obtain ⟨G1, G2, G3, e0, hM⟩ := hY.2.1.get (by simp [hp])
            subst e0
            refine wpOp_go rfl rfl (fun K hK => ?_)
            go_wp2_with (first | (go_at_call 112; refine (of_five _ _ _ _ _ (Cx.ofInt 1) G1 G2 G3 _ hM rfl rfl rfl rfl rfl).mono ?_; rintro e w3 ⟨E1, E2, E3, rfl, hN, hb⟩))
            try refine hK _ _ ?_
            exact ⟨_, _, _, rfl, HV.out.other (by decide), Off.new ⟨hY.1.trans (hb.mono hY.1.size), ((hY.2.1).keep (by decide)).map (fun h => h.to hb), On.new (⟨E1, E2, E3, rfl, hN⟩)⟩, fun h => absurd (hE.get 10 8 (by decide) (on_ne h (by decide))) (off hoff), hE.step (by simp [hp]), by simp [hz]⟩
          · skip
            have e3 : V2 3 = .slice (some ⟨g, 0, none⟩) d d := hv.get 3 (by decide) (by simp [hp])
            have e4 : V2 4 = .int .i64 i := hv.get 4 (by decide) (by simp [hp])
            have HV := Lib.hid ((hv.fixE e3 rfl).fixE e4 rfl)
            clear hv
            simp only [e3, e4]
            refine wpOp_go rfl rfl (fun K hK => ?_)
            go_simp
            refine hK _ _ ?_
            exact ⟨_, _, _, rfl, HV.out.new (x := .pointer (some ⟨g, i * 5, none⟩)) rfl, hZ.keep.map (fun ⟨hb0, y7, y8⟩ => ⟨hb0, y7.keep (by decide), y8.keep (by decide)⟩), hM0.keep (by decide), hE.step (by simp [hp]), by simp [hz]⟩
          · skip
            have e9 : V2 9 = .pointer (some ⟨g, i * 5, none⟩) := hv.get 9 (by decide) (by simp [hp])
            have HV := Lib.hid (hv.fixE e9 rfl)
            clear hv
            simp only [e9]
            have hY := hZ.get (off hoff)
            obtain ⟨E1, E2, E3, e1, hN⟩ := hY.2.2.get (by simp [hp])
            subst e1
            obtain ⟨⟨u0, u1, u2, u3, u4, d0, d1, d2, d3, d4⟩, ⟨f0, f1, f2, f3, f4⟩, hfin⟩ := hput W' hY.1
            refine wpOp_go rfl rfl (fun K hK => ?_)
            go_simp
            refine hK _ _ ?_
            obtain ⟨XX, hX⟩ : ∃ XX : World, XX = set5o W' g (i * 5) (Cx.ofInt 1) E1 E2 E3 := ⟨_, rfl⟩
            have hw : set5o W' g (i * 5) (Cx.ofInt 1) E1 E2 E3 = XX := hX.symm
            unfold set5o at hw
            rw [hw]
            subst hX
            exact ⟨_, _, _, rfl, HV.out.other (by decide), Off.done (by omega), On.new (hfin (fun _ _ => True) idm _ E1 E2 E3 hN (if_pos rfl) (fun a b h _ => ⟨trivial, id0_at h⟩)), hE.step (by simp [hp]), by simp [hz]⟩
        · intro l a' W' hr hI
          obtain ⟨V2, x7, x8, rfl, hv, hZ, hM0, hE, hz⟩ := hI
          have a0 := not_ready (i := 0) hr hz rfl (by simp [Region.binds])
          have a1 := not_ready (i := 1) hr hz rfl (by simp [Region.binds, a0])
          have a2 := not_ready (i := 2) hr hz rfl (by simp [Region.binds, a0, a1])
          have a3 := not_ready (i := 3) hr hz rfl (by simp [Region.binds, a0, a1, a2])
          have a4 := not_ready (i := 4) hr hz rfl (by simp [Region.binds, a0, a1, a2, a3])
          have a5 := not_ready (i := 5) hr hz rfl (by simp [Region.binds, a0, a1, a2, a3, a4])
          have a6 := not_ready (i := 6) hr hz rfl (by simp [Region.binds, a0, a1, a2, a3, a4, a5])
          have a7 := not_ready (i := 7) hr hz rfl (by simp [Region.binds, a0, a1, a2, a3, a4, a5, a6])
          have a8 := not_ready (i := 8) hr hz rfl (by simp [Region.binds, a0, a1, a2, a3, a4, a5, a6, a7])
          have a9 := not_ready (i := 9) hr hz rfl (by simp [Region.binds, a0, a1, a2, a3, a4, a5, a6, a7, a8])
          have a10 := not_ready (i := 10) hr hz rfl (by simp [Region.binds, a0, a1, a2, a3, a4, a5, a6, a7, a8, a9])
          have hY := hM0.get a10
          clear hr hz hv hZ a0 a1 a2 a3 a4 a5 a6 a7 a8 a9 a10 hM0 hE
          go_wp2_with fail
          go_roundw
          case rel => exact ⟨i + 1, by omega, by go_num, hY⟩
          case measure => simp [intOf]; omega
        · exact ⟨fun zz => List.getD [u26, u27, u28, u29, u30, u31, u32, u33, u34, u35, undef] zz undef, _, _, rfl, OnFix.start, Off.new ⟨((Below.refl _ _).drew), fun h => absurd h (by decide), fun h => absurd h (by decide)⟩, fun h => absurd h (by decide), Edg.start, by simp⟩
      · exact ⟨fun zz => List.getD [u15, u16, u17, u18, u19, u20, u21, u22, u23, u24, u25, undef] zz undef, _, _, _, _, rfl, OnFix.start, Off.new ⟨((Below.refl _ _).drew), fun h => absurd h (by decide), fun h => absurd h (by decide), fun h => absurd h (by decide), fun h => absurd h (by decide)⟩, fun h => absurd h (by decide), Edg.start, by simp⟩
    · obtain rfl : i = d := by omega
      go_wp2_with fail
      go_ret
      exact ⟨w1, gO, rfl, HB1.out, hB⟩
end Go.Proofs.Ytdpjknjlhchmcaa

namespace Go.Proofs.Ytdpjknjlhchmcaa
open Go.RowKit Pl
set_option linter.unusedVariables false
set_option linter.unusedSimpArgs false
/-- A matrix all of whose blocks lie from z on. -/
def FarM (z : Nat) (w : World) (gO n m : Nat) (f : Nat → Nat → Cx) : Prop := (z ≤ gO ∧ gO < w.heap.size) ∧ ∃ G : Nat → Nat, ∀ i, i < n → w.cell? ⟨gO, i, none⟩ = some (.slice (some ⟨G i, 0, none⟩) m m) ∧ z ≤ G i ∧ ∀ k, k < m → PE w (G i) (k * 5) (f i k)
theorem FarM.to {z gO n m : Nat} {w w' : World} {f : Nat → Nat → Cx} (h : FarM z w gO n m f) (hb : Below w.heap.size w w') : FarM z w' gO n m f := by
  obtain ⟨⟨h1, h2⟩, G, h3⟩ := h
  exact ⟨⟨h1, Nat.lt_of_lt_of_le h2 hb.size⟩, G, fun i hi => ⟨keepc hb (h3 i hi).1 h2, (h3 i hi).2.1, fun k hk => ((h3 i hi).2.2 k hk).to hb⟩⟩
theorem FarM.set5o {z gO n m p o : Nat} {w : World} {f : Nat → Nat → Cx} {q : Cx} {A1 A2 A3 : Option Addr} {c : Bool} (h : FarM z w gO n m f) (hp : p < z) (k : w.cell? ⟨p, 0, none⟩ = some (.bool c)) : FarM z (Proofs.Ytdpjknjlhchmcaa.set5o w p o q A1 A2 A3) gO n m f := by
  obtain ⟨⟨h1, h2⟩, G, h3⟩ := h
  refine ⟨⟨h1, by rw [set5o_size]; exact h2⟩, G, fun i hi => ?_⟩
  obtain ⟨a1, a2, a3⟩ := h3 i hi
  exact ⟨set5o_cell a1 (.inl (by omega)), a2, fun k' hk => (a3 k' hk).set5o (.inl (by omega)) k⟩
theorem FarM.of {z gO n m : Nat} {w0 w : World} {f : Nat → Nat → Cx} (h : MkP w0 gO n m n (fun _ _ => True) f w) (hz : z ≤ w0.heap.size) : FarM z w gO n m f := by
  obtain ⟨h1, h2, _, ⟨G, h4, _, _⟩, _⟩ := h
  exact ⟨⟨Nat.le_trans hz h1, h2⟩, G, fun i hi => by
    obtain ⟨a1, a2, a3, a4, a5, a6⟩ := h4 i hi hi
    exact ⟨a1, Nat.le_trans hz a2, fun k hk => a6 k hk trivial⟩⟩
end Go.Proofs.Ytdpjknjlhchmcaa

namespace Go.Proofs.Ytdpjknjlhchmcaa
open Go.RowKit Pl
set_option linter.unusedVariables false
set_option linter.unusedSimpArgs false
theorem dot_lin {a h : Nat → Nat → Cx} {b : Nat → Cx} {c : Cx} {i k m : Nat} {g : Nat → Nat → Cx} (hb : ∀ l, b l = g m l) : ∀ n, dotC (fun i l => (a i l).add (c.mul (b l))) h i k n = (dotC a h i k n).add (c.mul (dotC g h m k n)) := by
  intro n
  induction n with
  | zero => simp only [dotC]; rw [mul_zero_c, add_zero_c]
  | succ n ih =>
    simp only [dotC]
    rw [ih, hb n]
    refine Cx.ext' ?_ ?_ <;> simp only [Cx.add, Cx.mul] <;> grind
/-- Products of three matrices. -/
theorem dot_assoc {f g h : Nat → Nat → Cx} {i k n : Nat} : ∀ m, dotC f (fun j k => dotC g h j k n) i k m = dotC (fun i l => dotC f g i l m) h i k n := by
  intro m
  induction m with
  | zero =>
    show Cx.zero = _
    exact (dot_zero n fun l _ => rfl).symm
  | succ m ih =>
    show (dotC f (fun j k => dotC g h j k n) i k m).add ((f i m).mul (dotC g h m k n)) = _
    rw [ih]
    rw [← dot_lin (a := fun i l => dotC f g i l m) (h := h) (b := fun l => g m l) (c := f i m) (g := g) (m := m) (i := i) (k := k) (fun l => rfl) n]
    exact dot_row (show (fun l => (dotC f g i l m).add ((f i m).mul (g m l))) = fun l => dotC f g i l (m + 1) from rfl) k n
theorem idm_ne {i k : Nat} (h : i ≠ k) : idm i k = Cx.zero := by unfold idm; rw [if_neg h]; rfl
theorem idm_eq {i : Nat} : idm i i = Cx.ofInt 1 := if_pos rfl
theorem idm_comm (i k : Nat) : idm i k = idm k i := by
  unfold idm
  by_cases h : i = k
  · rw [if_pos h, if_pos h.symm]
  · rw [if_neg h, if_neg (Ne.symm h)]
theorem dot_idl {f : Nat → Nat → Cx} {i k n : Nat} (hi : i < n) : dotC idm f i k n = f i k := by
  rw [dot_one (n := n) (fun l _ hne => idm_ne hne) n (Nat.le_refl n), if_pos hi, idm_eq, one_mul_c]
theorem dot_idr {f : Nat → Nat → Cx} {i k : Nat} : ∀ j, dotC f idm i k j = if k < j then f i k else Cx.zero := by
  intro j
  induction j with
  | zero => rw [if_neg (by omega)]; rfl
  | succ j ih =>
    simp only [dotC]
    rw [ih]
    by_cases e : k = j
    · subst e; rw [if_neg (by omega), if_pos (by omega), idm_eq, mul_one_c, zero_add_c]
    · rw [idm_ne (by omega), mul_zero_c, add_zero_c]
      by_cases h : k < j
      · rw [if_pos h, if_pos (by omega)]
      · rw [if_neg h, if_neg (by omega)]
end Go.Proofs.Ytdpjknjlhchmcaa

namespace Go.Proofs.Ytdpjknjlhchmcaa
open Go.RowKit Pl
set_option linter.unusedVariables false
set_option linter.unusedSimpArgs false
theorem dot_linr {h : Nat → Nat → Cx} {y z : Nat → Cx} {c : Cx} {p k : Nat} : ∀ n, dotC h (fun q _ => (y q).add (c.mul (z q))) p k n = (dotC h (fun q _ => y q) p k n).add (c.mul (dotC h (fun q _ => z q) p k n)) := by
  intro n
  induction n with
  | zero => simp only [dotC]; rw [mul_zero_c, add_zero_c]
  | succ n ih => simp only [dotC]; rw [ih]; refine Cx.ext' ?_ ?_ <;> simp only [Cx.add, Cx.mul] <;> grind
theorem dot_linl {g : Nat → Nat → Cx} {y z : Nat → Cx} {c : Cx} {p k : Nat} : ∀ n, dotC (fun _ q => (y q).add (c.mul (z q))) g p k n = (dotC (fun _ q => y q) g p k n).add (c.mul (dotC (fun _ q => z q) g p k n)) := by
  intro n
  induction n with
  | zero => simp only [dotC]; rw [mul_zero_c, add_zero_c]
  | succ n ih => simp only [dotC]; rw [ih]; refine Cx.ext' ?_ ?_ <;> simp only [Cx.add, Cx.mul] <;> grind
theorem conj_conj (x : Cx) : x.conj.conj = x := by cases x; simp [Cx.conj]
theorem conj_lin (x c z : Cx) : (x.add (c.mul z)).conj = x.conj.add (c.conj.mul z.conj) := by
  refine Cx.ext' ?_ ?_ <;> simp only [Cx.add, Cx.mul, Cx.conj] <;> grind
theorem dot_conj {f g : Nat → Nat → Cx} {i k : Nat} : ∀ n, (dotC f g i k n).conj = dotC (fun a b => (g b a).conj) (fun a b => (f b a).conj) k i n := by
  intro n
  induction n with
  | zero => simp [dotC, Cx.zero, Cx.conj]
  | succ n ih => simp only [dotC]; rw [← ih]; refine Cx.ext' ?_ ?_ <;> simp only [Cx.add, Cx.mul, Cx.conj] <;> grind
theorem dot_ext {f f' g g' : Nat → Nat → Cx} {i i' k k' : Nat} : ∀ n, (∀ l, l < n → f i l = f' i' l ∧ g l k = g' l k') → dotC f g i k n = dotC f' g' i' k' n := by
  intro n
  induction n with
  | zero => intro _; rfl
  | succ n ih => intro h; simp only [dotC]; rw [ih fun l hl => h l (by omega), (h n (by omega)).1, (h n (by omega)).2]
theorem sq_rat (a : Rat) : 0 ≤ a * a := by
  by_cases h : 0 ≤ a
  · exact Rat.mul_nonneg h h
  · have h2 := Rat.mul_nonneg (show 0 ≤ -a by grind) (show 0 ≤ -a by grind)
    grind
/-- The form's value for two vectors. -/
def bil (n : Nat) (h : Nat → Nat → Cx) (x y : Nat → Cx) : Cx := dotC (fun _ p => (x p).conj) (fun p _ => dotC h (fun q _ => y q) p 0 n) 0 0 n
theorem bil_addr {n : Nat} {h : Nat → Nat → Cx} {x y z : Nat → Cx} {c : Cx} : bil n h x (fun q => (y q).add (c.mul (z q))) = (bil n h x y).add (c.mul (bil n h x z)) := by
  unfold bil
  simp only [dot_linr]
theorem bil_addl {n : Nat} {h : Nat → Nat → Cx} {x y z : Nat → Cx} {c : Cx} : bil n h (fun q => (x q).add (c.mul (z q))) y = (bil n h x y).add (c.conj.mul (bil n h z y)) := by
  unfold bil
  simp only [conj_lin, dot_linl]
def Herm (n : Nat) (h : Nat → Nat → Cx) : Prop := ∀ a b, a < n → b < n → h a b = (h b a).conj
theorem bil_conj {n : Nat} {h : Nat → Nat → Cx} {x y : Nat → Cx} (hh : Herm n h) : bil n h x y = (bil n h y x).conj := by
  unfold bil
  rw [dot_conj]
  refine Eq.trans (b := dotC (fun _ p => (x p).conj) (fun j k => dotC h (fun q _ => y q) j k n) 0 0 n) (dot_ext n (fun l _ => ⟨rfl, rfl⟩)) ?_
  rw [dot_assoc]
  refine dot_ext n (fun l hl => ⟨?_, (conj_conj _).symm⟩)
  show dotC (fun _ p => (x p).conj) h 0 l n = (dotC h (fun q _ => x q) l 0 n).conj
  rw [dot_conj]
  exact dot_ext n fun k hk => ⟨rfl, hh k l hk hl⟩
/-- What is positive semidefinite. -/
def Psd (n : Nat) (h : Nat → Nat → Cx) : Prop := ∀ x, 0 ≤ (bil n h x x).re
def adj (f : Nat → Nat → Cx) : Nat → Nat → Cx := fun i k => (f k i).conj
/-- What z makes of s. -/
def cong (n : Nat) (z s : Nat → Nat → Cx) : Nat → Nat → Cx := fun i k => dotC (fun i k => dotC (adj z) s i k n) z i k n
def gram (n : Nat) (f : Nat → Nat → Cx) : Nat → Nat → Cx := fun i k => dotC (adj f) f i k n
theorem row_adj {n l : Nat} {f : Nat → Nat → Cx} {x : Nat → Cx} : dotC (fun _ p => (x p).conj) (adj f) 0 l n = (dotC f (fun q _ => x q) l 0 n).conj := by
  rw [dot_conj]; rfl
theorem psd_cong {n : Nat} {z s : Nat → Nat → Cx} (h : Psd n s) : Psd n (cong n z s) := by
  intro x
  have e : bil n (cong n z s) x x = bil n s (fun l => dotC z (fun q _ => x q) l 0 n) (fun l => dotC z (fun q _ => x q) l 0 n) := by
    unfold bil
    have e1 : ∀ p, dotC (cong n z s) (fun q _ => x q) p 0 n = dotC (adj z) (fun l _ => dotC s (fun q _ => dotC z (fun q _ => x q) q 0 n) l 0 n) p 0 n := by
      intro p
      show dotC (fun i l => dotC (fun i k => dotC (adj z) s i k n) z i l n) (fun q _ => x q) p 0 n = _
      rw [← dot_assoc]
      rw [← dot_assoc]
      exact dot_ext n fun l _ => ⟨rfl, dot_ext n fun q _ => ⟨rfl, rfl⟩⟩
    simp only [e1]
    refine Eq.trans (b := dotC (fun _ p => (x p).conj) (fun j k => dotC (adj z) (fun l _ => dotC s (fun q _ => dotC z (fun q _ => x q) q 0 n) l 0 n) j k n) 0 0 n) (dot_ext n (fun l _ => ⟨rfl, rfl⟩)) ?_
    rw [dot_assoc]
    exact dot_ext n fun l _ => ⟨row_adj, rfl⟩
  rw [e]
  exact h _
theorem sq_pos (u : Nat → Cx) : ∀ n, 0 ≤ (dotC (fun _ l => (u l).conj) (fun l _ => u l) 0 0 n).re := by
  intro n
  induction n with
  | zero => simp [dotC, Cx.zero]
  | succ n ih =>
    simp only [dotC, Cx.add, Cx.mul, Cx.conj] at *
    have h1 := sq_rat (u n).re
    have h2 := sq_rat (u n).im
    grind
theorem psd_gram {n : Nat} {f : Nat → Nat → Cx} : Psd n (gram n f) := by
  intro x
  have e : bil n (gram n f) x x = dotC (fun _ l => (dotC f (fun q _ => x q) l 0 n).conj) (fun l _ => dotC f (fun q _ => x q) l 0 n) 0 0 n := by
    unfold bil
    have e1 : ∀ p, dotC (gram n f) (fun q _ => x q) p 0 n = dotC (adj f) (fun l _ => dotC f (fun q _ => x q) l 0 n) p 0 n := by
      intro p
      show dotC (fun i l => dotC (adj f) f i l n) (fun q _ => x q) p 0 n = _
      rw [← dot_assoc]
      exact dot_ext n fun l _ => ⟨rfl, rfl⟩
    simp only [e1]
    refine Eq.trans (b := dotC (fun _ p => (x p).conj) (fun j k => dotC (adj f) (fun l _ => dotC f (fun q _ => x q) l 0 n) j k n) 0 0 n) (dot_ext n (fun l _ => ⟨rfl, rfl⟩)) ?_
    rw [dot_assoc]
    exact dot_ext n fun l _ => ⟨row_adj, rfl⟩
  rw [e]
  exact sq_pos _ n
theorem psd_add {n : Nat} {f g h : Nat → Nat → Cx} (hf : Psd n f) (hg : Psd n g) (he : ∀ a b, a < n → b < n → h a b = (f a b).add (g a b)) : Psd n h := by
  intro x
  have e : bil n h x x = (bil n f x x).add (bil n g x x) := by
    unfold bil
    have e1 : ∀ p, p < n → ∀ m, m ≤ n → dotC h (fun q _ => x q) p 0 m = (dotC f (fun q _ => x q) p 0 m).add (dotC g (fun q _ => x q) p 0 m) := by
      intro p hp m
      induction m with
      | zero => intro _; simp only [dotC]; rw [add_zero_c]
      | succ m ih =>
        intro hm
        simp only [dotC]
        rw [ih (by omega), he p m hp (by omega)]
        refine Cx.ext' ?_ ?_ <;> simp only [Cx.add, Cx.mul] <;> grind
    have e2 : ∀ m, m ≤ n → dotC (fun _ p => (x p).conj) (fun p _ => dotC h (fun q _ => x q) p 0 n) 0 0 m = (dotC (fun _ p => (x p).conj) (fun p _ => dotC f (fun q _ => x q) p 0 n) 0 0 m).add (dotC (fun _ p => (x p).conj) (fun p _ => dotC g (fun q _ => x q) p 0 n) 0 0 m) := by
      intro m
      induction m with
      | zero => intro _; simp only [dotC]; rw [add_zero_c]
      | succ m ih =>
        intro hm
        simp only [dotC]
        rw [ih (by omega), e1 m (by omega) n (Nat.le_refl n)]
        refine Cx.ext' ?_ ?_ <;> simp only [Cx.add, Cx.mul] <;> grind
    exact e2 n (Nat.le_refl n)
  rw [e]
  have h1 := hf x
  have h2 := hg x
  simp only [Cx.add]
  grind
theorem herm_gram {n : Nat} {f : Nat → Nat → Cx} : Herm n (gram n f) := by
  intro a b _ _
  unfold gram
  rw [dot_conj]
  exact dot_ext n fun l _ => ⟨rfl, (conj_conj _).symm⟩
theorem herm_cong {n : Nat} {z s : Nat → Nat → Cx} (h : Herm n s) : Herm n (cong n z s) := by
  intro a b ha hb
  unfold cong
  rw [dot_conj]
  rw [← dot_assoc]
  refine dot_ext n fun l hl => ⟨rfl, ?_⟩
  show _ = (dotC (adj z) s b l n).conj
  rw [dot_conj]
  exact dot_ext n fun m hm => ⟨h l m hl hm, (conj_conj _).symm⟩
/-- The matrix and the vectors behind a round with something at i. -/
def gdn (i : Nat) (g : Nat → Nat → Cx) : Nat → Nat → Cx := fun a b => if i < a ∧ i < b then (g a b).sub ((g a i).mul ((g i b).div (g i i))) else g a b
def vdn (i : Nat) (g v : Nat → Nat → Cx) : Nat → Nat → Cx := fun a j => if i < a then (v a j).add ((((g i a).div (g i i)).neg).mul (v i j)) else v a j
def absC (x : Cx) : Cx := if cmpC x Cx.zero < 0 then x.neg else x
def crF (g : Nat → Nat → Cx) (i k : Nat) : Cx := ((((absC (g k k)).add (Cx.ofInt 1)).div ((g i k).norm.add (g i k).norm)).neg).mul (g i k)
def crV (g v : Nat → Nat → Cx) (i k : Nat) : Nat → Cx := fun j => (v k j).add ((crF g i k).mul (v i j))
def crK (n : Nat) (g : Nat → Nat → Cx) (i : Nat) : Nat := piv (fun a b => g b a) i (n - (i + 1)) (i + 1)
/-- What 'Definite' finds: a vector, or none. -/
def defF (n : Nat) : Nat → Nat → (Nat → Nat → Cx) → (Nat → Nat → Cx) → Option (Nat → Cx)
  | 0, _, _, _ => none
  | d + 1, i, g, v => if cmpC (g i i) Cx.zero < 0 then some (v i) else if g i i = Cx.zero then (if crK n g i < n then some (crV g v i (crK n g i)) else defF n d (i + 1) g v) else defF n d (i + 1) (gdn i g) (vdn i g v)
theorem real_neg {x : Cx} (h : x = x.conj) (hc : cmpC x Cx.zero < 0) : x.re < 0 := by
  have e : x.im = -x.im := congrArg Cx.im h
  rw [cmpC_rat] at hc
  unfold cmpR at hc
  have : x.im = 0 := by grind
  simp only [Cx.zero] at hc
  grind
theorem nrm_ne {x : Cx} (h : x ≠ Cx.zero) : 0 < x.nrm := by
  unfold Cx.nrm
  have h1 := sq_rat x.re
  have h2 := sq_rat x.im
  by_cases e : x.re * x.re + x.im * x.im = 0
  · exfalso
    have e1 : x.re * x.re = 0 := by grind
    have e2 : x.im * x.im = 0 := by grind
    apply h
    refine Cx.ext' ?_ ?_
    · exact (Rat.mul_eq_zero.1 e1).elim id id
    · exact (Rat.mul_eq_zero.1 e2).elim id id
  · grind
theorem abs_real {x : Cx} (h : x = x.conj) : (absC x).im = 0 ∧ x.re ≤ (absC x).re := by
  have e : x.im = -x.im := congrArg Cx.im h
  have e0 : x.im = 0 := by grind
  unfold absC
  split
  · rename_i hc
    have := real_neg h hc
    simp only [Cx.neg]
    exact ⟨by grind, by grind⟩
  · exact ⟨e0, Rat.le_refl⟩
/-- What the crossing vector's form is. -/
theorem cross_neg {n : Nat} {h : Nat → Nat → Cx} {x y : Nat → Cx} {gik gkk : Cx} (hh : Herm n h) (hii : bil n h x x = Cx.zero) (hik : bil n h x y = gik) (hkk : bil n h y y = gkk) (h0 : gik ≠ Cx.zero) :
    (bil n h (fun j => (y j).add ((((((absC gkk).add (Cx.ofInt 1)).div (gik.norm.add gik.norm)).neg).mul gik).mul (x j))) (fun j => (y j).add ((((((absC gkk).add (Cx.ofInt 1)).div (gik.norm.add gik.norm)).neg).mul gik).mul (x j)))).re < 0 := by
  rw [bil_addl, bil_addr, bil_addr, hii, hik, hkk, bil_conj hh (x := y), hik]
  have hk : gkk = gkk.conj := by rw [← hkk]; exact bil_conj hh
  obtain ⟨a1, a2⟩ := abs_real hk
  have hn := nrm_ne h0
  have hkim : gkk.im = 0 := by have : gkk.im = -gkk.im := congrArg Cx.im hk; grind
  obtain ⟨S, hS⟩ : ∃ S, S = ((absC gkk).add (Cx.ofInt 1)).div (gik.norm.add gik.norm) := ⟨_, rfl⟩
  rw [← hS]
  have s1 : S.im = 0 := by
    rw [hS]
    simp only [Cx.div, Cx.add, Cx.norm, Cx.ofInt, a1]
    grind
  have s2 : S.re * (gik.nrm + gik.nrm) = (absC gkk).re + 1 := by
    rw [hS]
    simp only [Cx.div, Cx.add, Cx.norm, Cx.ofInt, a1]
    obtain ⟨N, hN⟩ : ∃ N, N = gik.nrm + gik.nrm := ⟨_, rfl⟩
    have hN0 : N ≠ 0 := by grind
    rw [← hN]
    have e : Cx.nrm ⟨N, 0 + 0⟩ = N * N := by simp only [Cx.nrm]; grind
    rw [e]
    grind
  obtain ⟨s, hs⟩ : ∃ s, s = S.re := ⟨_, rfl⟩
  have key : (((gkk.add ((S.neg.mul gik).mul gik.conj)).add ((S.neg.mul gik).conj.mul (gik.add ((S.neg.mul gik).mul Cx.zero))))).re = gkk.re - s * (gik.nrm + gik.nrm) := by
    simp only [Cx.add, Cx.mul, Cx.conj, Cx.neg, Cx.zero, Cx.nrm, s1, ← hs]
    grind
  rw [key, hs, s2]
  grind
theorem step_inv {n i : Nat} {h g v : Nat → Nat → Cx} (hh : Herm n h) (hi : i < n) (hI : ∀ a b, i ≤ a → a < n → i ≤ b → b < n → g a b = bil n h (v a) (v b)) (h0 : g i i ≠ Cx.zero) :
    ∀ a b, i + 1 ≤ a → a < n → i + 1 ≤ b → b < n → gdn i g a b = bil n h (vdn i g v a) (vdn i g v b) := by
  intro a b ha ha2 hb hb2
  have va : vdn i g v a = fun j => (v a j).add ((((g i a).div (g i i)).neg).mul (v i j)) := by funext j; exact if_pos (by omega)
  have vb : vdn i g v b = fun j => (v b j).add ((((g i b).div (g i i)).neg).mul (v i j)) := by funext j; exact if_pos (by omega)
  rw [va, vb, bil_addl, bil_addr, bil_addr, ← hI a b (by omega) ha2 (by omega) hb2, ← hI a i (by omega) ha2 (by omega) hi, ← hI i b (by omega) hi (by omega) hb2, ← hI i i (by omega) hi (by omega) hi]
  have hd : ((g i b).div (g i i)).mul (g i i) = g i b := div_mul_c _ h0
  unfold gdn
  rw [if_pos ⟨by omega, by omega⟩]
  obtain ⟨Q, hQ⟩ : ∃ Q, Q = (g i b).div (g i i) := ⟨_, rfl⟩
  rw [← hQ] at hd ⊢
  have d1 := congrArg Cx.re hd
  have d2 := congrArg Cx.im hd
  simp only [Cx.mul] at d1 d2
  refine Cx.ext' ?_ ?_ <;> simp only [Cx.sub, Cx.add, Cx.mul, Cx.neg, Cx.conj] <;> grind
theorem def_neg {n : Nat} {h : Nat → Nat → Cx} (hh : Herm n h) : ∀ d i (g v : Nat → Nat → Cx) (w : Nat → Cx), i + d = n → (∀ a b, i ≤ a → a < n → i ≤ b → b < n → g a b = bil n h (v a) (v b)) → defF n d i g v = some w → (bil n h w w).re < 0 := by
  intro d
  induction d with
  | zero => intro i g v w _ _ h; cases h
  | succ d ih =>
    intro i g v w hd hI hr
    unfold defF at hr
    have hgi := hI i i (by omega) (by omega) (by omega) (by omega)
    by_cases c1 : cmpC (g i i) Cx.zero < 0
    · rw [if_pos c1] at hr
      injection hr with hr
      rw [← hr, ← hgi]
      exact real_neg (by rw [hgi]; exact bil_conj hh) c1
    · rw [if_neg c1] at hr
      by_cases c2 : g i i = Cx.zero
      · rw [if_pos c2] at hr
        by_cases c3 : crK n g i < n
        · rw [if_pos c3] at hr
          injection hr with hr
          obtain ⟨p1, p2, p3, p4⟩ := piv_spec (fun a b => g b a) i (n - (i + 1)) (i + 1)
          have hne : g i (crK n g i) ≠ Cx.zero := p4 (by show crK n g i < _; omega)
          have hlo : i + 1 ≤ crK n g i := p1
          rw [← hr]
          exact cross_neg hh (by rw [← hgi]; exact c2) (hI i _ (by omega) (by omega) (by omega) c3).symm (hI _ _ (by omega) c3 (by omega) c3).symm hne
        · rw [if_neg c3] at hr
          exact ih (i + 1) g v w (by omega) (fun a b ha ha2 hb hb2 => hI a b (by omega) ha2 (by omega) hb2) hr
      · rw [if_neg c2] at hr
        exact ih (i + 1) _ _ w (by omega) (step_inv hh (by omega) hI c2) hr
/-- The form at the unit vectors. -/
theorem bil_id {n : Nat} {h : Nat → Nat → Cx} {a b : Nat} (ha : a < n) (hb : b < n) : bil n h (idm a) (idm b) = h a b := by
  unfold bil
  have e1 : ∀ p, dotC h (fun q _ => idm b q) p 0 n = h p b := by
    intro p
    have := dot_idr (f := h) (i := p) (k := b) n
    rw [if_pos hb] at this
    rw [← this]
    exact dot_ext n fun l _ => ⟨rfl, idm_comm b l⟩
  simp only [e1]
  have := dot_idl (f := h) (i := a) (k := b) (n := n) ha
  rw [← this]
  exact dot_ext n fun l _ => ⟨by show (idm a l).conj = idm a l; unfold idm; split <;> simp [Cx.conj, Cx.ofInt], rfl⟩
theorem def_none {n : Nat} {h : Nat → Nat → Cx} (hh : Herm n h) (hp : Psd n h) : defF n n 0 h idm = none := by
  cases e : defF n n 0 h idm with
  | none => rfl
  | some w =>
    have h1 := def_neg hh n 0 h idm w (by omega) (fun a b _ ha _ hb => (bil_id ha hb).symm) e
    have h2 := hp w
    exact absurd h1 (by grind)
end Go.Proofs.Ytdpjknjlhchmcaa

namespace Go.Proofs.Ytdpjknjlhchmcaa
open Go.RowKit Pl
set_option linter.unusedVariables false
set_option linter.unusedSimpArgs false
/-- A list of L numbers that was made since w0. -/
def ListP (w0 w : World) (L : Nat) (f : Nat → Cx) (v : Value) : Prop := Below w0.heap.size w0 w ∧ ((L = 0 ∧ v = .slice none 0 0) ∨ ∃ g c xs, 0 < L ∧ v = .slice (some ⟨g, 0, none⟩) L c ∧ w.ownsRow w0.heap.size 34 5 v L xs ∧ ∀ j, j < L → PE w g (j * 5) (f j))
theorem ListP.new {w : World} {f : Nat → Cx} : ListP w w 0 f (.slice none 0 0) := ⟨Below.refl _ _, .inl ⟨rfl, rfl⟩⟩
theorem ListP.to {w0 w w' : World} {L : Nat} {f : Nat → Cx} {v : Value} (h : ListP w0 w L f v) (hb : Below w.heap.size w w') : ListP w0 w' L f v := by
  obtain ⟨h0, h⟩ := h
  refine ⟨h0.trans (hb.mono h0.size), ?_⟩
  rcases h with h | ⟨g, c, xs, h1, h2, h4, h5⟩
  · exact .inl h
  · exact .inr ⟨g, c, xs, h1, h2, h4.kept (row := none) ⟨hb.os, hb.tape, hb.output, hb.size, fun k hk _ => hb.block k hk⟩ (by cases v.ownBlock <;> simp), fun j hj => (h5 j hj).to hb⟩
/-- An append. -/
theorem ListP.push {w0 w : World} {L b : Nat} {f : Nat → Cx} {v : Value} (h : ListP w0 w L f v) (hl : L ≤ 1000) (hpe : PE w b 0 (f L)) :
    ∃ v' w', (Builtin.append_ #[42, 42] 42 #[v, .slice (some ⟨b, 0, none⟩) 1 1]).run Try.prog w = .ok v' w' ∧ ListP w0 w' (L + 1) f v' := by
  obtain ⟨h0, h⟩ := h
  obtain ⟨ti, ki, kz, ks, kb⟩ := info_parts Try.info_num
  obtain ⟨A1, A2, A3, cs, nn⟩ := hpe
  have hown : ∃ xs, w.ownsRow w0.heap.size 34 5 v L xs := by
    rcases h with ⟨e1, e2⟩ | ⟨g, c, xs, _, _, k4, _⟩
    · exact ⟨[], by simp [e1], .inl ⟨e2, e1⟩⟩
    · exact ⟨xs, k4⟩
  obtain ⟨xs, hown⟩ := hown
  obtain ⟨g2, c2, w', er, o2, hg, hob⟩ := push_row (b := b) Try.und_nums ki kz ks kb (by omega) rfl hown h0.size hl cs ⟨rfl, rfl, rfl, rfl, rfl⟩
  have hrow : (L = 0 ∧ v.ownBlock = none) ∨ ∃ g, 0 < L ∧ v.ownBlock = some g ∧ w0.heap.size ≤ g ∧ ∃ c, w.cell? ⟨g, 0, none⟩ = some (.bool c) := by
    rcases h with ⟨e1, e2⟩ | ⟨g, c, ys, k1, k2, k4, k5⟩
    · exact .inl ⟨e1, by rw [e2]; rfl⟩
    · obtain ⟨_, _, _, ⟨c0, _⟩, _⟩ := k5 0 k1
      rw [Nat.zero_mul] at c0
      rw [k2] at k4
      rcases k4.2 with ⟨e3, _⟩ | ⟨g', cap, cur, e3, hbg, _⟩
      · cases e3
      · injection e3 with e3; injection e3 with e3; injection e3 with e3; subst e3
        exact .inr ⟨g, k1, by rw [k2]; rfl, hbg, _, c0⟩
  have natk : ∀ {A : Option Addr} {m : Nat}, Nat32 w A m → Nat32 w' A m := by
    intro A m hm
    rcases hrow with ⟨_, e⟩ | ⟨g, _, e, _, c, hc⟩
    · rw [e] at hg
      intro h0
      obtain ⟨p, e1, e2, e3⟩ := hm h0
      exact ⟨p, e1, Nat.lt_of_lt_of_le e2 hg.size, fun j hj => hg.cell (e3 j hj) (by simp)⟩
    · rw [e] at hg
      exact grow_nat hg hc hm
  have numk : ∀ {A B C : Option Addr} {q : Cx}, Num3 w A B C q → Num3 w' A B C q := fun h => ⟨natk h.1, natk h.2.1, natk h.2.2⟩
  have hxl := hown.1
  have newrow : ∀ j, j < L + 1 → PE w' g2 (j * 5) (f j) := by
    intro j hj
    by_cases e : j = L
    · subst e
      have hnew : ∀ m, m < 5 → w'.cell? ⟨g2, j * 5 + m, none⟩ = ([.bool (sn (na (f j))), .slice A1 (ln (ab (na (f j)))) (ln (ab (na (f j)))), .bool (sn (nb (f j))), .slice A2 (ln (ab (nb (f j)))) (ln (ab (nb (f j)))), .slice A3 (ln (un (f j))) (ln (un (f j)))] : List Value)[m]? := by
        intro m hm
        rw [own_cell o2 (by omega), List.getElem?_append_right (by omega), hxl, Nat.add_sub_cancel_left]
      exact ⟨A1, A2, A3, ⟨hnew 0 (by omega), hnew 1 (by omega), hnew 2 (by omega), hnew 3 (by omega), hnew 4 (by omega)⟩, numk nn⟩
    · rcases h with ⟨e1, _⟩ | ⟨g, c, ys, k1, k2, k4, k5⟩
      · omega
      · obtain ⟨B1, B2, B3, ⟨d0, d1, d2, d3, d4⟩, m3⟩ := k5 j (by omega)
        rw [k2] at hown
        have old : ∀ m, m < L * 5 → w'.cell? ⟨g2, m, none⟩ = w.cell? ⟨g, m, none⟩ := by
          intro m hm
          rw [own_cell o2 (by omega), List.getElem?_append_left (by omega), own_cell hown hm]
        exact ⟨B1, B2, B3, ⟨(old _ (by omega)).trans d0, (old _ (by omega)).trans d1, (old _ (by omega)).trans d2, (old _ (by omega)).trans d3, (old _ (by omega)).trans d4⟩, numk m3⟩
  refine ⟨_, w', er, h0.grown hg h0.size (fun p hp => ?_), .inr ⟨g2, c2, _, Nat.succ_pos _, rfl, o2, newrow⟩⟩
  rcases hrow with ⟨_, e⟩ | ⟨g, _, e, hz, _⟩
  · rw [e] at hp; cases hp
  · rw [e] at hp; rw [← Option.some.inj hp]; exact hz
theorem own_le {w : World} {B B' n : Nat} {T : TypeId} {v : Value} {xs : List Value} (h : w.ownsRow B T 5 v n xs) (hB : B' ≤ B) : w.ownsRow B' T 5 v n xs :=
  ⟨h.1, h.2.imp id fun ⟨g, c, cu, e, hg, r⟩ => ⟨g, c, cu, e, Nat.le_trans hB hg, r⟩⟩
def RetMix (w : World) (n : Nat) (f : Nat → Cx) (e : Ending) (w' : World) : Prop := ∃ v, e = .returned v ∧ ListP w w' n f v
set_option maxRecDepth 100000 in
set_option maxHeartbeats 40000000 in
theorem mixed_any (w : World) (A B F1 F2 F3 : Option Addr) (n c c2 : Nat) (p q : Nat → Cx) (F : Cx) (hx : NumsP w A n p) (hy : NumsP w B n q) (hf : Num3 w F1 F2 F3 F) (hn : n ≤ 100)
    (hS : ∀ j, j < n → sz 137438953472 (p j) ∧ sz 137438953472 (q j) ∧ sz 137438953472 (F.mul (q j))) (hF : sz 137438953472 F) :
    Calls Try.prog 52 #[.slice A n c, .agg #[.bool (sn (na F)), .slice F1 (ln (ab (na F))) (ln (ab (na F))), .bool (sn (nb F)), .slice F2 (ln (ab (nb F))) (ln (ab (nb F))), .slice F3 (ln (un F)) (ln (un F))], .slice B n c2] w (RetMix w n (fun j => (p j).add (F.mul (q j)))) := by
  have HS := Lib.hid hS
  clear hS
  obtain ⟨H, hH⟩ : ∃ H : Nat → Cx, H = fun j => (p j).add (F.mul (q j)) := ⟨_, rfl⟩
  rw [← hH]
  have HH := Lib.hid hH
  clear hH
  go_enter Try.func52, Try.ntmps52
  go_upto_region 1 with fail
  obtain ⟨g4, hg4⟩ : ∃ g, g = w.heap.size := ⟨_, rfl⟩
  obtain ⟨W0, hW0⟩ : ∃ W0 : World, W0 = w.alloc (.cells #[.bool (sn (na F)), .slice F1 (ln (ab (na F))) (ln (ab (na F))), .bool (sn (nb F)), .slice F2 (ln (ab (nb F))) (ln (ab (nb F))), .slice F3 (ln (un F)) (ln (un F))] 34) := ⟨_, rfl⟩
  have hb0 : Below w.heap.size w W0 := by rw [hW0]; exact (Below.refl _ _).alloc (Nat.le_refl _) _
  have hv : HasP W0 g4 F := by rw [hW0, hg4]; exact hasP_new hf
  rw [← hg4, ← hW0]
  replace hx := hx.to hb0
  replace hy := hy.to hb0
  have HX := Lib.hid hx; have HY := Lib.hid hy; have HB0 := Lib.hid hb0
  clear hx hy hf hb0 hg4 hW0
  go_upto_region 3 with fail
  go_loopw [7, 11] (fun o i (wr : World) => ∃ (k : Nat) (v : Value), k ≤ n ∧ i = .int .i64 k ∧ v = o ∧ ListP W0 wr k H v) (fun _ i _ => n - (intOf i).toNat)
  case atStart => exact ⟨0, _, Nat.zero_le _, rfl, rfl, ListP.new⟩
  case round =>
    obtain ⟨j, o, hj, rfl, rfl, hL⟩ := hrel
    by_cases hlt : j < n
    · obtain ⟨gx, rfl, px⟩ := HX.out j hlt
      obtain ⟨gy, rfl, py⟩ := HY.out j hlt
      replace px := px.to hL.1
      replace py := py.to hL.1
      have hvr := hv.to hL.1
      obtain ⟨A1, A2, A3, hcs, hN⟩ := px
      obtain ⟨B1, B2, B3, hds, hM⟩ := py
      obtain ⟨S1, S2, S3, hsc, hsn⟩ := hvr.slot
      obtain ⟨x, hxe⟩ : ∃ x, x = p j := ⟨_, rfl⟩
      obtain ⟨y, hye⟩ : ∃ y, y = q j := ⟨_, rfl⟩
      rw [← hxe] at hcs hN
      rw [← hye] at hds hM
      have hr1 : gx < wr.heap.size := World.block_lt_of_cell? wr ⟨gx, _, none⟩ hcs.1
      have hr2 : gy < wr.heap.size := World.block_lt_of_cell? wr ⟨gy, _, none⟩ hds.1
      have hr3 := hvr.1
      have hHj : H j = x.add (F.mul y) := by rw [HH.out, hxe, hye]
      have HHJ := Lib.hid hHj
      have ZZ : Hid (sz 137438953472 x ∧ sz 137438953472 y ∧ sz 137438953472 (F.mul y) ∧ sz 137438953472 F) := Lib.hid (by rw [hxe, hye]; exact ⟨(HS.out j hlt).1, (HS.out j hlt).2.1, (HS.out j hlt).2.2, hF⟩)
      have HL := Lib.hid hL
      have i1 : (0 : Int) ≤ (j : Int) := by omega
      have i2 : (j : Int) < (n : Int) := by omega
      clear hL hxe hye hHj hvr hv
      go_upto_region 5 with fail
      refine wp_region_any (by kernel_rfl) ?_
      refine wpAny_inv (fun l a' w' => ∃ V : Nat → Value, ∃ x10 x11 x12 x13 x14 : Value, a' = ⟨#[.slice (some ⟨gx, 0, none⟩) n c, .agg #[.bool (sn (na F)), .slice F1 (ln (ab (na F))) (ln (ab (na F))), .bool (sn (nb F)), .slice F2 (ln (ab (nb F))) (ln (ab (nb F))), .slice F3 (ln (un F)) (ln (un F))], .slice (some ⟨gy, 0, none⟩) n c2, undef, .pointer (some ⟨g4, 0, none⟩), undef, .slice none 0 0, x14, .int .i64 ↑j, .slice (some ⟨gx, 0, none⟩) n c, .int .i64 ↑n, .int .i64 ↑j, .bool true, .int .i64 ↑j, V 0, V 1, V 2, V 3, V 4, V 5, V 6, V 7, V 8, V 9, x10, x11, x12, x13, u28, undef], []⟩ ∧ OnFix l V (fun zz => List.getD [o, .slice (some ⟨gx, 0, none⟩) n c, .int .i64 j, .pointer (some ⟨gx, j * 5, none⟩), .agg #[.bool (sn (na x)), .slice A1 (ln (ab (na x))) (ln (ab (na x))), .bool (sn (nb x)), .slice A2 (ln (ab (nb x))) (ln (ab (nb x))), .slice A3 (ln (un x)) (ln (un x))], .agg #[.bool (sn (na F)), .slice S1 (ln (ab (na F))) (ln (ab (na F))), .bool (sn (nb F)), .slice S2 (ln (ab (nb F))) (ln (ab (nb F))), .slice S3 (ln (un F)) (ln (un F))], .slice (some ⟨gy, 0, none⟩) n c2, .int .i64 j, .pointer (some ⟨gy, j * 5, none⟩), .agg #[.bool (sn (na y)), .slice B1 (ln (ab (na y))) (ln (ab (na y))), .bool (sn (nb y)), .slice B2 (ln (ab (nb y))) (ln (ab (nb y))), .slice B3 (ln (un y)) (ln (un y))], undef, undef, undef, undef, undef] zz undef) [0, 1, 2, 3, 4, 5, 6, 7, 8, 9] ∧ Off l 13 (Below wr.heap.size wr w' ∧ On l 10 (SlotNum w' x10 (F.mul y)) ∧ On l 11 (SlotNum w' x11 (x.add (F.mul y))) ∧ On l 12 (BoxN wr.heap.size w' x12 (x.add (F.mul y)))) ∧ On l 13 (ListP W0 w' (j + 1) H x13) ∧ Off l 14 (x14 = o) ∧ On l 14 (x14 = x13) ∧ Edg l [(13, 12), (12, 11), (11, 4), (11, 10), (10, 5), (10, 9), (14, 13), (13, 0)] ∧ l.size = 15) ?_ ?_ _ _ _ _ (by decide) ?_
      · intro l a' W' i hi hI
        obtain ⟨V, x10, x11, x12, x13, x14, rfl, hv, hZ, hM0, hA14, hB14, hE, hz⟩ := hI
        obtain ⟨hlt, hoff, hpre⟩ := ready_pre hi
        have hc : i ∈ [0, 1, 2, 3, 4, 5, 6, 7, 8, 9, 10, 11, 12, 13, 14] := (by decide : ∀ i, i < 15 → i ∈ [0, 1, 2, 3, 4, 5, 6, 7, 8, 9, 10, 11, 12, 13, 14]) i hlt
        simp only [List.mem_cons, List.not_mem_nil, or_false] at hc
        clear hi hlt
        rcases hc with rfl | rfl | rfl | rfl | rfl | rfl | rfl | rfl | rfl | rfl | rfl | rfl | rfl | rfl | rfl <;> (have hp := hpre _ rfl; simp [Region.binds] at hp; clear hpre)
        · skip
          have HV := Lib.hid hv
          clear hv
          have e0 := (hA14.get (fun h => off hoff (hE.get 13 0 (by decide) (hE.get 14 13 (by decide) h)))).symm; subst e0
          refine wpOp_go rfl rfl (fun K hK => ?_)
          go_simp
          refine hK _ _ ?_
          exact ⟨_, _, _, _, _, _, rfl, HV.out.new (x := o) rfl, hZ.keep.map (fun ⟨hb0, y10, y11, y12⟩ => ⟨hb0, y10.keep (by decide), y11.keep (by decide), y12.keep (by decide)⟩), hM0.keep (by decide), hA14.keep, fun h => absurd (hE.get 13 0 (by decide) (hE.get 14 13 (by decide) (on_ne h (by decide)))) (off hoff), hE.mono (by decide), by simp [hz]⟩
        · skip
          have HV := Lib.hid hv
          clear hv
          refine wpOp_go rfl rfl (fun K hK => ?_)
          go_simp
          refine hK _ _ ?_
          exact ⟨_, _, _, _, _, _, rfl, HV.out.new (x := .slice (some ⟨gx, 0, none⟩) n c) rfl, hZ.keep.map (fun ⟨hb0, y10, y11, y12⟩ => ⟨hb0, y10.keep (by decide), y11.keep (by decide), y12.keep (by decide)⟩), hM0.keep (by decide), hA14.keep, hB14.keep (j := 1) (by decide), hE.mono (by decide), by simp [hz]⟩
        · skip
          have HV := Lib.hid hv
          clear hv
          refine wpOp_go rfl rfl (fun K hK => ?_)
          go_simp
          refine hK _ _ ?_
          exact ⟨_, _, _, _, _, _, rfl, HV.out.new (x := .int .i64 j) rfl, hZ.keep.map (fun ⟨hb0, y10, y11, y12⟩ => ⟨hb0, y10.keep (by decide), y11.keep (by decide), y12.keep (by decide)⟩), hM0.keep (by decide), hA14.keep, hB14.keep (j := 2) (by decide), hE.mono (by decide), by simp [hz]⟩
        · skip
          have e1 : V 1 = .slice (some ⟨gx, 0, none⟩) n c := hv.get 1 (by decide) (by simp [hp])
          have e2 : V 2 = .int .i64 j := hv.get 2 (by decide) (by simp [hp])
          have HV := Lib.hid ((hv.fixE e1 rfl).fixE e2 rfl)
          clear hv
          simp only [e1, e2]
          refine wpOp_go rfl rfl (fun K hK => ?_)
          go_simp
          refine hK _ _ ?_
          exact ⟨_, _, _, _, _, _, rfl, HV.out.new (x := .pointer (some ⟨gx, j * 5, none⟩)) rfl, hZ.keep.map (fun ⟨hb0, y10, y11, y12⟩ => ⟨hb0, y10.keep (by decide), y11.keep (by decide), y12.keep (by decide)⟩), hM0.keep (by decide), hA14.keep, hB14.keep (j := 3) (by decide), hE.mono (by decide), by simp [hz]⟩
        · skip
          have e3 : V 3 = .pointer (some ⟨gx, j * 5, none⟩) := hv.get 3 (by decide) (by simp [hp])
          have HV := Lib.hid (hv.fixE e3 rfl)
          clear hv
          simp only [e3]
          have hY := hZ.get (fun h => off hoff (hE.get 11 4 (by decide) (hE.get 12 11 (by decide) (hE.get 13 12 (by decide) h))))
          obtain ⟨z0, z1, z2, z3, z4⟩ := hcs
          have y0 := keepc hY.1 z0 hr1; have y1 := keepc hY.1 z1 hr1; have y2 := keepc hY.1 z2 hr1; have y3 := keepc hY.1 z3 hr1; have y4 := keepc hY.1 z4 hr1
          refine wpOp_go rfl rfl (fun K hK => ?_)
          go_simp
          refine hK _ _ ?_
          exact ⟨_, _, _, _, _, _, rfl, HV.out.new (x := .agg #[.bool (sn (na x)), .slice A1 (ln (ab (na x))) (ln (ab (na x))), .bool (sn (nb x)), .slice A2 (ln (ab (nb x))) (ln (ab (nb x))), .slice A3 (ln (un x)) (ln (un x))]) rfl, hZ.keep.map (fun ⟨hb0, y10, y11, y12⟩ => ⟨hb0, y10.keep (by decide), y11.keep (by decide), y12.keep (by decide)⟩), hM0.keep (by decide), hA14.keep, hB14.keep (j := 4) (by decide), hE.mono (by decide), by simp [hz]⟩
        · skip
          have HV := Lib.hid hv
          clear hv
          have hY := hZ.get (fun h => off hoff (hE.get 10 5 (by decide) (hE.get 11 10 (by decide) (hE.get 12 11 (by decide) (hE.get 13 12 (by decide) h)))))
          obtain ⟨z0, z1, z2, z3, z4⟩ := hsc
          have y0 := keepc hY.1 z0 hr3; have y1 := keepc hY.1 z1 hr3; have y2 := keepc hY.1 z2 hr3; have y3 := keepc hY.1 z3 hr3; have y4 := keepc hY.1 z4 hr3
          refine wpOp_go rfl rfl (fun K hK => ?_)
          go_simp
          refine hK _ _ ?_
          exact ⟨_, _, _, _, _, _, rfl, HV.out.new (x := .agg #[.bool (sn (na F)), .slice S1 (ln (ab (na F))) (ln (ab (na F))), .bool (sn (nb F)), .slice S2 (ln (ab (nb F))) (ln (ab (nb F))), .slice S3 (ln (un F)) (ln (un F))]) rfl, hZ.keep.map (fun ⟨hb0, y10, y11, y12⟩ => ⟨hb0, y10.keep (by decide), y11.keep (by decide), y12.keep (by decide)⟩), hM0.keep (by decide), hA14.keep, hB14.keep (j := 5) (by decide), hE.mono (by decide), by simp [hz]⟩
        · skip
          have HV := Lib.hid hv
          clear hv
          refine wpOp_go rfl rfl (fun K hK => ?_)
          go_simp
          refine hK _ _ ?_
          exact ⟨_, _, _, _, _, _, rfl, HV.out.new (x := .slice (some ⟨gy, 0, none⟩) n c2) rfl, hZ.keep.map (fun ⟨hb0, y10, y11, y12⟩ => ⟨hb0, y10.keep (by decide), y11.keep (by decide), y12.keep (by decide)⟩), hM0.keep (by decide), hA14.keep, hB14.keep (j := 6) (by decide), hE.mono (by decide), by simp [hz]⟩
        · skip
          have HV := Lib.hid hv
          clear hv
          refine wpOp_go rfl rfl (fun K hK => ?_)
          go_simp
          refine hK _ _ ?_
          exact ⟨_, _, _, _, _, _, rfl, HV.out.new (x := .int .i64 j) rfl, hZ.keep.map (fun ⟨hb0, y10, y11, y12⟩ => ⟨hb0, y10.keep (by decide), y11.keep (by decide), y12.keep (by decide)⟩), hM0.keep (by decide), hA14.keep, hB14.keep (j := 7) (by decide), hE.mono (by decide), by simp [hz]⟩
        · skip
          have e6 : V 6 = .slice (some ⟨gy, 0, none⟩) n c2 := hv.get 6 (by decide) (by simp [hp])
          have e7 : V 7 = .int .i64 j := hv.get 7 (by decide) (by simp [hp])
          have HV := Lib.hid ((hv.fixE e6 rfl).fixE e7 rfl)
          clear hv
          simp only [e6, e7]
          refine wpOp_go rfl rfl (fun K hK => ?_)
          go_simp
          refine hK _ _ ?_
          exact ⟨_, _, _, _, _, _, rfl, HV.out.new (x := .pointer (some ⟨gy, j * 5, none⟩)) rfl, hZ.keep.map (fun ⟨hb0, y10, y11, y12⟩ => ⟨hb0, y10.keep (by decide), y11.keep (by decide), y12.keep (by decide)⟩), hM0.keep (by decide), hA14.keep, hB14.keep (j := 8) (by decide), hE.mono (by decide), by simp [hz]⟩
        · skip
          have e8 : V 8 = .pointer (some ⟨gy, j * 5, none⟩) := hv.get 8 (by decide) (by simp [hp])
          have HV := Lib.hid (hv.fixE e8 rfl)
          clear hv
          simp only [e8]
          have hY := hZ.get (fun h => off hoff (hE.get 10 9 (by decide) (hE.get 11 10 (by decide) (hE.get 12 11 (by decide) (hE.get 13 12 (by decide) h)))))
          obtain ⟨z0, z1, z2, z3, z4⟩ := hds
          have y0 := keepc hY.1 z0 hr2; have y1 := keepc hY.1 z1 hr2; have y2 := keepc hY.1 z2 hr2; have y3 := keepc hY.1 z3 hr2; have y4 := keepc hY.1 z4 hr2
          refine wpOp_go rfl rfl (fun K hK => ?_)
          go_simp
          refine hK _ _ ?_
          exact ⟨_, _, _, _, _, _, rfl, HV.out.new (x := .agg #[.bool (sn (na y)), .slice B1 (ln (ab (na y))) (ln (ab (na y))), .bool (sn (nb y)), .slice B2 (ln (ab (nb y))) (ln (ab (nb y))), .slice B3 (ln (un y)) (ln (un y))]) rfl, hZ.keep.map (fun ⟨hb0, y10, y11, y12⟩ => ⟨hb0, y10.keep (by decide), y11.keep (by decide), y12.keep (by decide)⟩), hM0.keep (by decide), hA14.keep, hB14.keep (j := 9) (by decide), hE.mono (by decide), by simp [hz]⟩
        · skip
          have e5 : V 5 = .agg #[.bool (sn (na F)), .slice S1 (ln (ab (na F))) (ln (ab (na F))), .bool (sn (nb F)), .slice S2 (ln (ab (nb F))) (ln (ab (nb F))), .slice S3 (ln (un F)) (ln (un F))] := hv.get 5 (by decide) (by simp [hp])
          have e9 : V 9 = .agg #[.bool (sn (na y)), .slice B1 (ln (ab (na y))) (ln (ab (na y))), .bool (sn (nb y)), .slice B2 (ln (ab (nb y))) (ln (ab (nb y))), .slice B3 (ln (un y)) (ln (un y))] := hv.get 9 (by decide) (by simp [hp])
          have HV := Lib.hid ((hv.fixE e5 rfl).fixE e9 rfl)
          clear hv
          simp only [e5, e9]
          have hY := hZ.get (fun h => off hoff (hE.get 11 10 (by decide) (hE.get 12 11 (by decide) (hE.get 13 12 (by decide) h))))
          refine wpOp_go rfl rfl (fun K hK => ?_)
          go_wp2_with (first | (go_at_call 10; refine (mul_num F y S1 S2 S3 B1 B2 B3 _ (hsn.to hY.1) (hM.to hY.1) ZZ.out.2.2.2 ZZ.out.2.1).mono ?_; rintro e w3 ⟨E1, E2, E3, rfl, hNN, hb⟩))
          try refine hK _ _ ?_
          exact ⟨_, _, _, _, _, _, rfl, HV.out.other (by decide), Off.new ⟨hY.1.trans (hb.mono hY.1.size), On.new (⟨E1, E2, E3, rfl, hNN⟩), ((hY.2.2.1).keep (by decide)).map (fun h => h.to hb), ((hY.2.2.2).keep (by decide)).map (fun h => h.to hb)⟩, fun h => absurd (hE.get 11 10 (by decide) (hE.get 12 11 (by decide) (hE.get 13 12 (by decide) (on_ne h (by decide))))) (off hoff), hA14.keep, hB14.keep (j := 10) (by decide), hE.step (by simp [hp]), by simp [hz]⟩
        · skip
          have e4 : V 4 = .agg #[.bool (sn (na x)), .slice A1 (ln (ab (na x))) (ln (ab (na x))), .bool (sn (nb x)), .slice A2 (ln (ab (nb x))) (ln (ab (nb x))), .slice A3 (ln (un x)) (ln (un x))] := hv.get 4 (by decide) (by simp [hp])
          have HV := Lib.hid (hv.fixE e4 rfl)
          clear hv
          simp only [e4]
          have hY := hZ.get (fun h => off hoff (hE.get 12 11 (by decide) (hE.get 13 12 (by decide) h)))
          obtain ⟨G1, G2, G3, e0, hMM⟩ := hY.2.1.get (by simp [hp])
          subst e0
          refine wpOp_go rfl rfl (fun K hK => ?_)
          go_wp2_with (first | (go_at_call 22; refine (add_num x (F.mul y) A1 A2 A3 G1 G2 G3 _ (hN.to hY.1) hMM ZZ.out.1 ZZ.out.2.2.1).mono ?_; rintro e w3 ⟨E1, E2, E3, rfl, hNN, hb⟩))
          try refine hK _ _ ?_
          exact ⟨_, _, _, _, _, _, rfl, HV.out.other (by decide), Off.new ⟨hY.1.trans (hb.mono hY.1.size), ((hY.2.1).keep (by decide)).map (fun h => h.to hb), On.new (⟨E1, E2, E3, rfl, hNN⟩), ((hY.2.2.2).keep (by decide)).map (fun h => h.to hb)⟩, fun h => absurd (hE.get 12 11 (by decide) (hE.get 13 12 (by decide) (on_ne h (by decide)))) (off hoff), hA14.keep, hB14.keep (j := 11) (by decide), hE.step (by simp [hp]), by simp [hz]⟩
        · skip
          have HV := Lib.hid hv
          clear hv
          have hY := hZ.get (fun h => off hoff (hE.get 13 12 (by decide) h))
          obtain ⟨E1, E2, E3, e0, hNN⟩ := hY.2.2.1.get (by simp [hp])
          subst e0
          refine wpOp_go rfl rfl (fun K hK => ?_)
          go_simp
          refine hK _ _ ?_
          exact ⟨_, _, _, _, _, _, rfl, HV.out.other (by decide), Off.new ⟨hY.1.trans (((Below.refl _ _).alloc (Nat.le_refl _) _).mono hY.1.size), ((hY.2.1).keep (by decide)).map (fun h => h.to ((Below.refl _ _).alloc (Nat.le_refl _) _)), ((hY.2.2.1).keep (by decide)).map (fun h => h.to ((Below.refl _ _).alloc (Nat.le_refl _) _)), On.new (BoxN.new hNN hY.1.size)⟩, fun h => absurd (hE.get 13 12 (by decide) (on_ne h (by decide))) (off hoff), hA14.keep, hB14.keep (j := 12) (by decide), hE.step (by simp [hp]), by simp [hz]⟩
        · skip
          have e0 : V 0 = o := hv.get 0 (by decide) (by simp [hp])
          have HV := Lib.hid (hv.fixE e0 rfl)
          clear hv
          simp only [e0]
          have e0 := (hA14.get (fun h => off hoff (hE.get 14 13 (by decide) h))).symm; subst e0
          have hY := hZ.get (off hoff)
          obtain ⟨bb, e0, hpe, hbb⟩ := hY.2.2.2.get (by simp [hp])
          subst e0
          obtain ⟨v', w3, er, m1⟩ := (HL.out.to hY.1).push (by omega) (by rw [HHJ.out]; exact hpe)
          refine wpOp_go rfl rfl (fun K hK => ?_)
          refine wp_append_run rfl rfl rfl er ?_
          go_simp
          refine hK _ _ ?_
          exact ⟨_, _, _, _, _, _, rfl, HV.out.other (by decide), Off.done (by omega), On.new (m1), hA14.keep, fun h => absurd (hE.get 14 13 (by decide) (on_ne h (by decide))) (off hoff), hE.step (by simp [hp]), by simp [hz]⟩
        · skip
          have HV := Lib.hid hv
          clear hv
          refine wpOp_go rfl rfl (fun K hK => ?_)
          go_simp
          refine hK _ _ ?_
          exact ⟨_, _, _, _, _, _, rfl, HV.out.other (by decide), hZ.keep.map (fun ⟨hb0, y10, y11, y12⟩ => ⟨hb0, y10.keep (by decide), y11.keep (by decide), y12.keep (by decide)⟩), hM0.keep (by decide), Off.done (by omega), On.new rfl, hE.step (by simp [hp]), by simp [hz]⟩
      · intro l a' W' hr hI
        obtain ⟨V, x10, x11, x12, x13, x14, rfl, hv, hZ, hM0, hA14, hB14, hE, hz⟩ := hI
        have a0 := not_ready (i := 0) hr hz rfl (by simp [Region.binds])
        have a1 := not_ready (i := 1) hr hz rfl (by simp [Region.binds, a0])
        have a2 := not_ready (i := 2) hr hz rfl (by simp [Region.binds, a0, a1])
        have a3 := not_ready (i := 3) hr hz rfl (by simp [Region.binds, a0, a1, a2])
        have a4 := not_ready (i := 4) hr hz rfl (by simp [Region.binds, a0, a1, a2, a3])
        have a5 := not_ready (i := 5) hr hz rfl (by simp [Region.binds, a0, a1, a2, a3, a4])
        have a6 := not_ready (i := 6) hr hz rfl (by simp [Region.binds, a0, a1, a2, a3, a4, a5])
        have a7 := not_ready (i := 7) hr hz rfl (by simp [Region.binds, a0, a1, a2, a3, a4, a5, a6])
        have a8 := not_ready (i := 8) hr hz rfl (by simp [Region.binds, a0, a1, a2, a3, a4, a5, a6, a7])
        have a9 := not_ready (i := 9) hr hz rfl (by simp [Region.binds, a0, a1, a2, a3, a4, a5, a6, a7, a8])
        have a10 := not_ready (i := 10) hr hz rfl (by simp [Region.binds, a0, a1, a2, a3, a4, a5, a6, a7, a8, a9])
        have a11 := not_ready (i := 11) hr hz rfl (by simp [Region.binds, a0, a1, a2, a3, a4, a5, a6, a7, a8, a9, a10])
        have a12 := not_ready (i := 12) hr hz rfl (by simp [Region.binds, a0, a1, a2, a3, a4, a5, a6, a7, a8, a9, a10, a11])
        have a13 := not_ready (i := 13) hr hz rfl (by simp [Region.binds, a0, a1, a2, a3, a4, a5, a6, a7, a8, a9, a10, a11, a12])
        have a14 := not_ready (i := 14) hr hz rfl (by simp [Region.binds, a0, a1, a2, a3, a4, a5, a6, a7, a8, a9, a10, a11, a12, a13])
        have hY := hM0.get a13
        have hX14 := hB14.get a14
        clear hr hz hv hZ a0 a1 a2 a3 a4 a5 a6 a7 a8 a9 a10 a11 a12 a13 a14 hM0 hA14 hB14 hE
        subst hX14
        go_wp2_with fail
        go_roundw
        case rel => exact ⟨j + 1, _, by omega, by go_num, rfl, hY⟩
        case measure => simp [intOf]; omega
      · exact ⟨fun zz => List.getD [u14, u15, u16, u17, u18, u19, u20, u21, u22, u23, u24, u25, u26, u27, o] zz undef, _, _, _, _, _, rfl, OnFix.start, Off.new ⟨((Below.refl _ _).drew), fun h => absurd h (by decide), fun h => absurd h (by decide), fun h => absurd h (by decide)⟩, fun h => absurd h (by decide), Off.new rfl, fun h => absurd h (by decide), Edg.start, by simp⟩
    · obtain rfl : j = n := by omega
      go_wp2_with fail
      go_ret
      exact ⟨_, rfl, ⟨HB0.out.trans (hL.1.mono HB0.out.size), by
        rcases hL.2 with h | ⟨g, c, xs, h1, h2, h3, h4⟩
        · exact .inl h
        · exact .inr ⟨g, c, xs, h1, h2, own_le h3 HB0.out.size, h4⟩⟩⟩
end Go.Proofs.Ytdpjknjlhchmcaa

namespace Go.Proofs.Ytdpjknjlhchmcaa
open Go.RowKit Pl
set_option linter.unusedVariables false
set_option linter.unusedSimpArgs false
/-- n rows of n numbers, all of them in blocks from z on. -/
def FarR (z vO n : Nat) (v : Nat → Nat → Cx) (w : World) : Prop := z ≤ vO ∧ vO < w.heap.size ∧ (∃ F, w.rowIs vO 42 n F) ∧
  ∃ R K : Nat → Nat, ∀ i, i < n → (w.cell? ⟨vO, i, none⟩ = some (.slice (some ⟨R i, 0, none⟩) n (K i)) ∧ z ≤ R i ∧ R i ≠ vO ∧ ∀ k, k < n → PE w (R i) (k * 5) (v i k))
theorem FarR.to {z vO n : Nat} {v : Nat → Nat → Cx} {w w' : World} (h : FarR z vO n v w) (hb : Below w.heap.size w w') : FarR z vO n v w' := by
  obtain ⟨h1, h2, ⟨F, h3⟩, R, K, h4⟩ := h
  exact ⟨h1, Nat.lt_of_lt_of_le h2 hb.size, ⟨F, h3.of_block (hb.block vO h2)⟩, R, K, fun i hi => by
    obtain ⟨a1, a2, a3, a4⟩ := h4 i hi
    exact ⟨keepc hb a1 h2, a2, a3, fun k hk => (a4 k hk).to hb⟩⟩
theorem FarR.cong {z vO n : Nat} {v v' : Nat → Nat → Cx} {w : World} (h : FarR z vO n v w) (e : ∀ i k, i < n → k < n → v' i k = v i k) : FarR z vO n v' w := by
  obtain ⟨h1, h2, h3, R, K, h4⟩ := h
  exact ⟨h1, h2, h3, R, K, fun i hi => by
    obtain ⟨a1, a2, a3, a4⟩ := h4 i hi
    exact ⟨a1, a2, a3, fun k hk => by rw [e i k hi hk]; exact a4 k hk⟩⟩
theorem FarR.mat {z vO n : Nat} {v : Nat → Nat → Cx} {w : World} (h : FarR z vO n v w) : MatP w (some ⟨vO, 0, none⟩) n (fun _ => n) v := by
  obtain ⟨h1, h2, h3, R, K, h4⟩ := h
  exact ⟨fun i => some ⟨R i, 0, none⟩, K, fun i hi => ⟨vO, 0, rfl, h2, by rw [Nat.zero_add]; exact (h4 i hi).1⟩, fun i hi j hj => ⟨_, rfl, (h4 i hi).2.2.2 j hj⟩⟩
theorem FarR.of {w0 w : World} {z vO n : Nat} {v : Nat → Nat → Cx} (h : MkP w0 vO n n n (fun _ _ => True) v w) (hz : z ≤ w0.heap.size) : FarR z vO n v w := by
  obtain ⟨h1, h2, h3, ⟨G, h4, _, _⟩, _⟩ := h
  exact ⟨by omega, h2, h3, G, fun _ => n, fun i hi => by
    obtain ⟨a1, a2, a3, a4, a5, a6⟩ := h4 i hi hi
    exact ⟨a1, by omega, a3, fun k hk => a6 k hk trivial⟩⟩
/-- A store below z. -/
theorem FarR.set5o {z vO n p o : Nat} {v : Nat → Nat → Cx} {w : World} {q : Cx} {A1 A2 A3 : Option Addr} {c : Bool} (h : FarR z vO n v w) (hp : p < z) (k : w.cell? ⟨p, 0, none⟩ = some (.bool c)) : FarR z vO n v (set5o w p o q A1 A2 A3) := by
  obtain ⟨h1, h2, ⟨F, h3⟩, R, K, h4⟩ := h
  have hn : vO ≠ p := by omega
  exact ⟨h1, by rw [set5o_size]; exact h2, ⟨F, ((((h3.setOther (a := ⟨p, o, none⟩) hn _).setOther (a := ⟨p, o + 1, none⟩) hn _).setOther (a := ⟨p, o + 2, none⟩) hn _).setOther (a := ⟨p, o + 3, none⟩) hn _).setOther (a := ⟨p, o + 4, none⟩) hn _⟩, R, K, fun i hi => by
    obtain ⟨a1, a2, a3, a4⟩ := h4 i hi
    exact ⟨set5o_cell a1 (.inl hn), a2, a3, fun l hl => (a4 l hl).set5o (.inl (by omega)) k⟩⟩
/-- A row: where it lies. -/
theorem FarR.row {z vO n : Nat} {v : Nat → Nat → Cx} {w : World} (h : FarR z vO n v w) {i : Nat} (hi : i < n) : ∃ g c, w.cell? ⟨vO, i, none⟩ = some (.slice (some ⟨g, 0, none⟩) n c) ∧ NumsP w (some ⟨g, 0, none⟩) n (v i) := by
  obtain ⟨_, _, _, R, K, h4⟩ := h
  obtain ⟨a1, a2, a3, a4⟩ := h4 i hi
  exact ⟨_, _, a1, fun j hj => ⟨_, rfl, a4 j hj⟩⟩
/-- A row of a matrix: where it lies. -/
theorem matp_row {w : World} {b n m : Nat} {v : Nat → Nat → Cx} (h : MatP w (some ⟨b, 0, none⟩) n (fun _ => m) v) {i : Nat} (hi : i < n) : ∃ A c, b < w.heap.size ∧ w.cell? ⟨b, i, none⟩ = some (.slice A m c) ∧ NumsP w A m (v i) := by
  obtain ⟨R, K, h1, h2⟩ := h
  obtain ⟨b', fo, e, hl, hc⟩ := h1 i hi
  injection e with e; injection e with e1 e2; subst e1 e2
  rw [Nat.zero_add] at hc
  exact ⟨_, _, hl, hc, fun j hj => h2 i hi j hj⟩
theorem matp_at0 {w : World} {b n m : Nat} {v : Nat → Nat → Cx} (h : MatP w (some ⟨b, 0, none⟩) n (fun _ => m) v) {i j : Nat} (hi : i < n) (hj : j < m) :
    ∃ g K' A1 A2 A3, b < w.heap.size ∧ w.cell? ⟨b, i, none⟩ = some (.slice (some ⟨g, 0, none⟩) m K') ∧ g < w.heap.size ∧
      (w.cell? ⟨g, j * 5, none⟩ = some (.bool (sn (na (v i j)))) ∧ w.cell? ⟨g, j * 5 + 1, none⟩ = some (.slice A1 (ln (ab (na (v i j)))) (ln (ab (na (v i j))))) ∧ w.cell? ⟨g, j * 5 + 2, none⟩ = some (.bool (sn (nb (v i j)))) ∧ w.cell? ⟨g, j * 5 + 3, none⟩ = some (.slice A2 (ln (ab (nb (v i j)))) (ln (ab (nb (v i j))))) ∧ w.cell? ⟨g, j * 5 + 4, none⟩ = some (.slice A3 (ln (un (v i j))) (ln (un (v i j))))) ∧ Num3 w A1 A2 A3 (v i j) := by
  obtain ⟨b', fo, g, K', A1, A2, A3, e, h1, h2, h3, h4, h5⟩ := h.at hi hj rfl
  injection e with e; injection e with e1 e2; subst e1 e2
  rw [Nat.zero_add] at h2
  exact ⟨g, K', A1, A2, A3, h1, h2, h3, h4, h5⟩
/-- The rows' store: a new row. -/
def rowSet (i : Nat) (f : Nat → Cx) (v : Nat → Nat → Cx) : Nat → Nat → Cx := fun a => if a = i then f else v a
/-- The matrix at work and the rows beside it. -/
def DefS (w0 : World) (z gO vO n : Nat) (g v : Nat → Nat → Cx) (w : World) : Prop := WkP w0 z gO n n g w ∧ FarR z vO n v w
theorem DefS.to {w0 w w' : World} {z gO vO n : Nat} {g v : Nat → Nat → Cx} (h : DefS w0 z gO vO n g v w) (hb : Below w.heap.size w w') : DefS w0 z gO vO n g v w' := ⟨h.1.to hb, h.2.to hb⟩
theorem DefS.cong {w0 w : World} {z gO vO n : Nat} {g g' v v' : Nat → Nat → Cx} (h : DefS w0 z gO vO n g v w) (e : ∀ i k, i < n → k < n → g' i k = g i k) (e2 : ∀ i k, i < n → k < n → v' i k = v i k) : DefS w0 z gO vO n g' v' w := ⟨h.1.cong e, h.2.cong e2⟩
theorem DefS.setRow {w0 We w : World} {z gO vO n i L : Nat} {g v : Nat → Nat → Cx} {f : Nat → Cx} {u : Value} (h : DefS w0 z gO vO n g v We) (hb : Below We.heap.size We w) (hi : i < n) (hl : ListP We w n f u) :
    (∃ u0, w.cell? ⟨vO, i, none⟩ = some u0) ∧ w.frozen? ⟨vO, i, none⟩ = false ∧ DefS w0 z gO vO n g (rowSet i f v) (w.setCell ⟨vO, i, none⟩ u) := by
  have hWe := h
  replace h := h.to hb
  obtain ⟨h, h1, h2, ⟨F, h3⟩, R, K, h4⟩ := h
  have hvo : vO < We.heap.size := hWe.2.2.1
  obtain ⟨_, hl⟩ := hl
  rcases hl with ⟨e, _⟩ | ⟨gr, c, xs, _, rfl, hown, hpe⟩
  · omega
  have hge : We.heap.size ≤ gr := by
    rcases hown.2 with ⟨e3, _⟩ | ⟨g', cap, cur, e3, hbg, _⟩
    · cases e3
    · injection e3 with e3; injection e3 with e3; injection e3 with e3; subst e3; exact hbg
  have hzv : z ≤ We.heap.size := hWe.1.2.1.2
  have u0 := (h4 0 (by omega)).1
  refine ⟨⟨_, h3.cell hi⟩, h3.frozen i, ?_, ?_⟩
  · obtain ⟨k1, k2, ⟨F2, k3⟩, ⟨G, K2, k4, k5⟩, k6⟩ := h
    refine ⟨k1, ⟨k2.1, by simpa [World.setCell] using k2.2⟩, ⟨F2, k3.setOther (a := ⟨vO, i, none⟩) (by show gO ≠ vO; omega) _⟩, ⟨G, K2, fun j hj => ?_, k5⟩, k6.setCell (by show w0.heap.size ≤ vO; omega) _⟩
    obtain ⟨a1, a2, a3, a4, a5, ⟨⟨F3, a6⟩, cc, a7⟩, a8⟩ := k4 j hj
    have hne : G j ≠ vO := by omega
    exact ⟨keepo a1 (.inl (by omega)), a2, a3, a4, a5, ⟨⟨F3, a6.setOther (a := ⟨vO, i, none⟩) hne _⟩, cc, keepo a7 (.inl hne)⟩, fun k hk => (a8 k hk).setS hne u0⟩
  · refine ⟨h1, by simpa [World.setCell] using h2, ⟨_, h3.set _ _⟩, fun a => if a = i then gr else R a, fun a => if a = i then c else K a, fun a ha => ?_⟩
    by_cases e : a = i
    · subst e
      simp only [rowSet, if_pos]
      exact ⟨cell_self (h4 a ha).1, by omega, by omega, fun k hk => (hpe k hk).setS (by omega) u0⟩
    · simp only [rowSet, if_neg e]
      obtain ⟨a1, a2, a3, a4⟩ := h4 a ha
      exact ⟨keepo a1 (.inr (by omega)), a2, a3, fun k hk => (a4 k hk).setS a3 u0⟩
theorem DefS.put {w0 W : World} {z gO vO n i k : Nat} {g v : Nat → Nat → Cx} (h : DefS w0 z gO vO n g v W) (hi : i < n) (hk : k < n) :
    ∃ gr c, W.cell? ⟨gO, i, none⟩ = some (.slice (some ⟨gr, 0, none⟩) n c) ∧ gr < W.heap.size ∧ gr < z ∧ PE W gr (k * 5) (g i k) ∧ ∀ w, Below W.heap.size W w →
      (∃ u0 u1 u2 u3 u4, w.cell? ⟨gr, k * 5, none⟩ = some u0 ∧ w.cell? ⟨gr, k * 5 + 1, none⟩ = some u1 ∧ w.cell? ⟨gr, k * 5 + 2, none⟩ = some u2 ∧ w.cell? ⟨gr, k * 5 + 3, none⟩ = some u3 ∧ w.cell? ⟨gr, k * 5 + 4, none⟩ = some u4) ∧
      (w.frozen? ⟨gr, k * 5, none⟩ = false ∧ w.frozen? ⟨gr, k * 5 + 1, none⟩ = false ∧ w.frozen? ⟨gr, k * 5 + 2, none⟩ = false ∧ w.frozen? ⟨gr, k * 5 + 3, none⟩ = false ∧ w.frozen? ⟨gr, k * 5 + 4, none⟩ = false) ∧ (∃ c, w.cell? ⟨gr, 0, none⟩ = some (.bool c)) ∧
      ∀ (g' : Nat → Nat → Cx) (q : Cx) (A1 A2 A3 : Option Addr), Num3 w A1 A2 A3 q → g' i k = q → (∀ a b, a < n → b < n → ¬ (a = i ∧ b = k) → g' a b = g a b) → DefS w0 z gO vO n g' v (Proofs.Ytdpjknjlhchmcaa.set5o w gr (k * 5) q A1 A2 A3) := by
  obtain ⟨gr, c, p1, p2, p3, p4, p5⟩ := h.1.put hi hk
  refine ⟨gr, c, p1, p2, p3, p4, fun w hb => ?_⟩
  obtain ⟨q1, q2, ⟨cb, hcb⟩, q3⟩ := p5 w hb
  exact ⟨q1, q2, ⟨cb, hcb⟩, fun g' q A1 A2 A3 hq he ho => ⟨q3 g' q A1 A2 A3 hq he ho, (h.2.to hb).set5o p3 hcb⟩⟩
/-- Columns from i + 1 up to k are done. -/
def gdT (i : Nat) (g : Nat → Nat → Cx) (k : Nat) : Nat → Nat → Cx := fun a b => if b < k then gdn i g a b else g a b
/-- .. and column k up to row l. -/
def gdA (i : Nat) (g : Nat → Nat → Cx) (k l : Nat) : Nat → Nat → Cx := fun a b => if b < k ∨ (b = k ∧ a < l) then gdn i g a b else g a b
def vdT (i : Nat) (g v : Nat → Nat → Cx) (k : Nat) : Nat → Nat → Cx := fun a => if a < k then vdn i g v a else v a
theorem gdn_row {i a b : Nat} {g : Nat → Nat → Cx} (h : a ≤ i) : gdn i g a b = g a b := if_neg (by omega)
theorem gdn_col {i a b : Nat} {g : Nat → Nat → Cx} (h : b ≤ i) : gdn i g a b = g a b := if_neg (by omega)
theorem gdT_start {i : Nat} {g : Nat → Nat → Cx} {a b : Nat} : g a b = gdT i g (i + 1) a b := by
  unfold gdT
  split
  · rw [gdn_col (by omega)]
  · rfl
theorem gdT_start' {n i : Nat} {g : Nat → Nat → Cx} : ∀ a b, a < n → b < n → gdT i g (i + 1) a b = g a b := fun a b _ _ => gdT_start.symm
theorem gdT_end {n i : Nat} {g : Nat → Nat → Cx} : ∀ a b, a < n → b < n → gdn i g a b = gdT i g n a b := by
  intro a b _ hb; unfold gdT; rw [if_pos hb]
theorem gdA_start {n i k : Nat} {g : Nat → Nat → Cx} : ∀ a b, a < n → b < n → gdA i g k (i + 1) a b = gdT i g k a b := by
  intro a b _ _
  unfold gdA gdT
  by_cases h : b < k
  · rw [if_pos h, if_pos (.inl h)]
  · rw [if_neg h]
    split
    · exact gdn_row (by omega)
    · rfl
theorem gdA_end {n i k : Nat} {g : Nat → Nat → Cx} : ∀ a b, a < n → b < n → gdT i g (k + 1) a b = gdA i g k n a b := by
  intro a b ha _
  unfold gdA gdT
  by_cases h : b < k + 1
  · rw [if_pos h, if_pos (by omega)]
  · rw [if_neg h, if_neg (by omega)]
theorem gdT_i {i k b : Nat} {g : Nat → Nat → Cx} : gdT i g k i b = g i b := by
  unfold gdT; split
  · exact gdn_row (Nat.le_refl i)
  · rfl
theorem gdA_at {i k l : Nat} {g : Nat → Nat → Cx} : gdA i g k l l k = g l k := if_neg (by omega)
theorem gdA_i {i k l a : Nat} {g : Nat → Nat → Cx} : gdA i g k l a i = g a i := by
  unfold gdA; split
  · exact gdn_col (Nat.le_refl i)
  · rfl
theorem gdA_new {i k l : Nat} {g : Nat → Nat → Cx} (hi : i < l) (hk : i < k) : gdA i g k (l + 1) l k = (g l k).sub ((g l i).mul ((g i k).div (g i i))) := by
  unfold gdA
  rw [if_pos (.inr ⟨rfl, Nat.lt_succ_self l⟩)]
  exact if_pos ⟨hi, hk⟩
theorem gdA_old {i k l a b : Nat} {g : Nat → Nat → Cx} (h : ¬ (a = l ∧ b = k)) : gdA i g k (l + 1) a b = gdA i g k l a b := by
  unfold gdA
  by_cases e : b < k ∨ (b = k ∧ a < l)
  · rw [if_pos e, if_pos (by omega)]
  · rw [if_neg e, if_neg (by omega)]
theorem vdT_start {n i : Nat} {g v : Nat → Nat → Cx} : ∀ a b, a < n → b < n → vdT i g v (i + 1) a b = v a b := by
  intro a b _ _
  unfold vdT
  split
  · unfold vdn; rw [if_neg (by omega)]
  · rfl
theorem vdT_end {n i : Nat} {g v : Nat → Nat → Cx} : ∀ a b, a < n → b < n → vdn i g v a b = vdT i g v n a b := by
  intro a b ha _; unfold vdT; rw [if_pos ha]
theorem vdT_i {i k : Nat} {g v : Nat → Nat → Cx} : vdT i g v k i = v i := by
  unfold vdT; split
  · funext j; exact if_neg (Nat.lt_irrefl i)
  · rfl
theorem vdT_at {i k : Nat} {g v : Nat → Nat → Cx} : vdT i g v k k = v k := if_neg (Nat.lt_irrefl k)
theorem vdT_next {n i k : Nat} {g v : Nat → Nat → Cx} (hk : i < k) : ∀ a b, a < n → b < n → vdT i g v (k + 1) a b = rowSet k (fun j => (v k j).add ((((g i k).div (g i i)).neg).mul (v i j))) (vdT i g v k) a b := by
  intro a b _ _
  unfold vdT rowSet
  by_cases e : a = k
  · subst e
    rw [if_pos (by omega), if_pos rfl]
    exact if_pos hk
  · rw [if_neg e]
    by_cases h : a < k
    · rw [if_pos (by omega)]; exact (congrFun (if_pos h) b).symm
    · rw [if_neg (by omega)]; exact (congrFun (if_neg h) b).symm
/-- Sizes. -/
theorem sz_gdn {K i n : Nat} {g : Nat → Nat → Cx} (hK : 1 ≤ K) (hi : i < n) (h0 : g i i ≠ Cx.zero) (h : ∀ a b, a < n → b < n → sz K (g a b)) : ∀ a b, a < n → b < n → sz (6 * K + 4) (gdn i g a b) := by
  intro a b ha hb
  unfold gdn
  split
  · exact (sz_sub2 (h a b ha hb) (sz_mul2 (h a i ha hi) (sz_div2 hK (h i b hi hb) (h i i hi hi) h0))).mono (by omega)
  · exact (h a b ha hb).mono (by omega)
theorem sz_vdn {K i n : Nat} {g v : Nat → Nat → Cx} (hK : 1 ≤ K) (hi : i < n) (h0 : g i i ≠ Cx.zero) (h : ∀ a b, a < n → b < n → sz K (g a b)) (hv : ∀ a b, a < n → b < n → sz K (v a b)) : ∀ a b, a < n → b < n → sz (6 * K + 4) (vdn i g v a b) := by
  intro a b ha hb
  unfold vdn
  split
  · exact (sz_add2 (hv a b ha hb) (sz_mul2 (sz_neg (sz_div2 hK (h i a hi ha) (h i i hi hi) h0)) (hv i b hi hb))).mono (by omega)
  · exact (hv a b ha hb).mono (by omega)
theorem sz_absC {K : Nat} {x : Cx} (h : sz K x) : sz K (absC x) := by
  unfold absC
  split
  · exact sz_neg h
  · exact h
theorem sz_one : sz 1 (Cx.ofInt 1) := sz_int (by decide +kernel) (by omega)
theorem crD_ne {x : Cx} (h : x ≠ Cx.zero) : x.norm.add x.norm ≠ Cx.zero := by
  intro e
  have h1 := nrm_ne h
  have h2 := congrArg Cx.re e
  simp only [Cx.add, Cx.norm, Cx.zero] at h2
  grind
/-- The factor before it is turned. -/
def crS (x y : Cx) : Cx := ((absC x).add (Cx.ofInt 1)).div (y.norm.add y.norm)
theorem sz_crS {K : Nat} {x y : Cx} (hK : 1 ≤ K) (hx : sz K x) (hy : sz K y) (h0 : y ≠ Cx.zero) : sz (13 * K + 13) (crS x y) :=
  (sz_div2 (by omega) (sz_add2 (sz_absC hx) sz_one) (sz_add2 (sz_norm hy) (sz_norm hy)) (crD_ne h0)).mono (by omega)
theorem ListP.le {w0 w1 w : World} {L : Nat} {f : Nat → Cx} {v : Value} (h : ListP w1 w L f v) (hb : Below w0.heap.size w0 w1) : ListP w0 w L f v := by
  refine ⟨hb.trans (h.1.mono hb.size), ?_⟩
  rcases h.2 with h | ⟨g, c, xs, h1, h2, h3, h4⟩
  · exact .inl h
  · exact .inr ⟨g, c, xs, h1, h2, own_le h3 hb.size, h4⟩
theorem ListP.form {w0 w : World} {L : Nat} {f : Nat → Cx} {v : Value} (h : ListP w0 w L f v) (hL : 0 < L) : ∃ g c, v = .slice (some ⟨g, 0, none⟩) L c ∧ NumsP w (some ⟨g, 0, none⟩) L f := by
  rcases h.2 with ⟨e, _⟩ | ⟨g, c, xs, h1, h2, h3, h4⟩
  · omega
  · exact ⟨g, c, h2, fun j hj => ⟨g, rfl, h4 j hj⟩⟩
theorem HasP.setS {w : World} {g p o a b : Nat} {S : Option Addr} {q : Cx} {v : Value} (h : HasP w g q) (hn : g ≠ p) (u : w.cell? ⟨p, 0, none⟩ = some (.slice S a b)) : HasP (w.setCell ⟨p, o, none⟩ v) g q := by
  obtain ⟨l, ⟨B1, B2, B3, ⟨c0, c1, c2, c3, c4⟩, n1, n2, n3⟩, ⟨f0, f1, f2, f3, f4⟩⟩ := h
  exact ⟨by simpa [World.setCell] using l, ⟨B1, B2, B3, ⟨keepo c0 (.inl hn), keepo c1 (.inl hn), keepo c2 (.inl hn), keepo c3 (.inl hn), keepo c4 (.inl hn)⟩, nat_setS n1 u, nat_setS n2 u, nat_setS n3 u⟩, ⟨keepof f0, keepof f1, keepof f2, keepof f3, keepof f4⟩⟩
theorem DefS.box0 {w0 w : World} {z gO vO n : Nat} {g v : Nat → Nat → Cx} (h : DefS w0 z gO vO n g v w) (hn : 0 < n) : ∃ S a b, w.cell? ⟨vO, 0, none⟩ = some (.slice S a b) := by
  obtain ⟨_, _, _, _, R, K, h4⟩ := h
  exact ⟨_, _, _, (h4 0 hn).1⟩
theorem sz_crV {K i n k : Nat} {g v : Nat → Nat → Cx} (hK : 1 ≤ K) (hi : i < n) (hk : k < n) (h0 : g i k ≠ Cx.zero) (h : ∀ a b, a < n → b < n → sz K (g a b)) (hv : ∀ a b, a < n → b < n → sz K (v a b)) : ∀ j, j < n → sz (16 * K + 16) (crV g v i k j) := by
  intro j hj
  exact (sz_add2 (hv k j hk hj) (sz_mul2 (sz_mul2 (sz_neg (sz_crS hK (h k k hk hk) (h i k hi hk) h0)) (h i k hi hk)) (hv i j hi hj))).mono (by omega)
/-- A comparison with nothing. -/
theorem cmp_zero0 (x : Cx) (A1 A2 A3 : Option Addr) (w : World) (hx : Num3 w A1 A2 A3 x) (hsx : sz 137438953472 x) :
    Calls Try.prog 50 #[.agg #[.bool (sn (na x)), .slice A1 (ln (ab (na x))) (ln (ab (na x))), .bool (sn (nb x)), .slice A2 (ln (ab (nb x))) (ln (ab (nb x))), .slice A3 (ln (un x)) (ln (un x))], .agg #[.bool false, .slice none 0 0, .bool false, .slice none 0 0, .slice none 0 0]] w (RetInt w (cmpC x Cx.zero)) := by
  have h := cmp_num x Cx.zero A1 A2 A3 none none none w hx (zero_num3 w) hsx (sz_int0.mono (by decide))
  obtain ⟨z1, z2, z3⟩ := zero_form
  have e0 : ln (ab (0 : Int)) = 0 := ln_zero
  rw [z1, z2, z3, e0, ln_zero] at h
  exact h
end Go.Proofs.Ytdpjknjlhchmcaa

namespace Go.Proofs.Ytdpjknjlhchmcaa
open Go.RowKit Pl
set_option linter.unusedVariables false
set_option linter.unusedSimpArgs false
/-- What 'crossed' hands back: nothing, or a vector. -/
def RetCr (w : World) (n i : Nat) (g v : Nat → Nat → Cx) (e : Ending) (w' : World) : Prop :=
  (¬ (g i i = Cx.zero ∧ crK n g i < n) ∧ e = .returned (.slice none 0 0) ∧ Below w.heap.size w w') ∨
  (g i i = Cx.zero ∧ crK n g i < n ∧ ∃ u, e = .returned u ∧ ListP w w' n (crV g v i (crK n g i)) u)
set_option maxRecDepth 100000 in
set_option maxHeartbeats 40000000 in
theorem crossed_any (w : World) (gO vO n i cg cv B : Nat) (g v : Nat → Nat → Cx) (hG : MatP w (some ⟨gO, 0, none⟩) n (fun _ => n) g) (hV : MatP w (some ⟨vO, 0, none⟩) n (fun _ => n) v) (hn : n ≤ 100) (hi : i < n) (hB : 1 ≤ B) (hB2 : 100 * B + 100 ≤ 137438953472)
    (hS : ∀ a b, a < n → b < n → sz B (g a b)) (hT : ∀ a b, a < n → b < n → sz B (v a b)) :
    Calls Try.prog 51 #[.slice (some ⟨gO, 0, none⟩) n cg, .slice (some ⟨vO, 0, none⟩) n cv, .int .i64 i] w (RetCr w n i g v) := by
  have HG := Lib.hid hG; have HV := Lib.hid hV; have HS := Lib.hid hS; have HT := Lib.hid hT
  obtain ⟨gr0, kr0, Z1, Z2, Z3, hlO, r1, r2, ⟨y0, y1, y2, y3, y4⟩, hN⟩ := matp_at0 hG hi hi
  obtain ⟨xx, hxx⟩ : ∃ x, x = g i i := ⟨_, rfl⟩
  have zxx : sz 1099511627776 xx := by rw [hxx]; exact (hS i i hi hi).mono (by omega)
  rw [← hxx] at y0 y1 y2 y3 y4 hN
  have HXX := Lib.hid hxx
  have i1 : (0 : Int) ≤ (i : Int) := by omega
  have i2 : (i : Int) < (n : Int) := by omega
  have wi : IntKind.i64.wrap ((i : Int) + 1) = (i : Int) + 1 := by have := wrapi_nat (a := i + 1) (by omega); simpa using this
  obtain ⟨p, hp⟩ : ∃ p, p = crK n g i := ⟨_, rfl⟩
  obtain ⟨hp1, hp2, hp3, hp4⟩ := piv_spec (fun a b => g b a) i (n - (i + 1)) (i + 1)
  have hpp : piv (fun a b => g b a) i (n - (i + 1)) (i + 1) = p := by rw [hp]; rfl
  rw [hpp] at hp1 hp2 hp3 hp4
  replace hp2 : p ≤ n := by omega
  have HP3 : Hid (∀ r, i + 1 ≤ r → r < p → g i r = Cx.zero) := Lib.hid fun r h1 h2 => hp3 r h1 h2
  have HP4 : Hid (p < n → g i p ≠ Cx.zero) := Lib.hid fun h => hp4 (by omega)
  have HP := Lib.hid hp
  clear hp3 hp4 hpp hp hG hV hS hT hxx
  go_enter Try.func51, Try.ntmps51
  by_cases hz : xx = Cx.zero
  · have hcl := la13 hz
    have HZ0 : Hid (g i i = Cx.zero) := Lib.hid (by rw [← HXX.out]; exact hz)
    clear hz
    go_wp2_with fail
    refine (clear_to xx Z1 Z2 Z3 _ hN zxx hcl).mono ?_
    rintro e w1 ⟨rfl, hb1⟩
    have HB1 := Lib.hid hb1
    clear y0 y1 y2 y3 y4 hN zxx hcl HXX r1 r2
    go_upto_region 4 with fail
    go_loopw [7] (fun o (wr : World) => ∃ q : Nat, i + 1 ≤ q ∧ q ≤ p ∧ o = .int .i64 q ∧ Below w.heap.size w wr) (fun o _ => n - (intOf o).toNat)
    case atStart => exact ⟨i + 1, Nat.le_refl _, hp1, by go_num, hb1⟩
    case round =>
      obtain ⟨q, hq1, hq2, rfl, hb⟩ := hrel
      clear hb1 HB1 wi
      by_cases hqn : q < n
      · have i3 : (0 : Int) ≤ (q : Int) := by omega
        have i4 : (q : Int) < (n : Int) := by omega
        have t0 : decide ((q : Int) < (n : Int)) = true := decide_eq_true i4
        obtain ⟨gr, kr, A1, A2, A3, _, r1, r2, hcs, hN⟩ := matp_at0 (HG.out.to hb) hi hqn
        obtain ⟨y, hy⟩ : ∃ x, x = g i q := ⟨_, rfl⟩
        rw [← hy] at hcs hN
        have zy : sz B y := by rw [hy]; exact HS.out i q hi hqn
        have HY := Lib.hid hy
        have hlO2 := Nat.lt_of_lt_of_le hlO hb.size
        have HBB := Lib.hid hb
        have zy2 : sz 1099511627776 y := zy.mono (by omega)
        obtain ⟨y0, y1, y2, y3, y4⟩ := hcs
        clear hb hy
        by_cases hz : y = Cx.zero
        · have hqp : q < p := by
            by_cases e : q < p
            · exact e
            · exfalso
              obtain rfl : q = p := by omega
              exact HP4.out hqn (by rw [← HY.out]; exact hz)
          have hcl := la13 hz
          clear hz
          go_wp2_with fail
          refine (clear_to y A1 A2 A3 _ hN zy2 hcl).mono ?_
          rintro e w2 ⟨rfl, hb⟩
          go_wp2_with fail
          go_roundw
          case rel => exact ⟨q + 1, by omega, by omega, by go_num, HBB.out.trans (hb.mono HBB.out.size)⟩
          case measure => simp [intOf]; omega
        · have hqp : q = p := by
            by_cases e : q = p
            · exact e
            · exact absurd (HY.out.trans (HP3.out q hq1 (by omega))) hz
          have hcl := la14 hz
          have HZY := Lib.hid hz
          subst hqp
          clear hz
          go_wp2_with fail
          refine (clear_to y A1 A2 A3 _ hN zy2 hcl).mono ?_
          rintro e w2 ⟨rfl, hb⟩
          have HB2 := Lib.hid (HBB.out.trans (hb.mono HBB.out.size))
          clear y0 y1 y2 y3 y4 hN zy2 hcl r1 r2 hb HBB t0
          obtain ⟨gk, kk, A1, A2, A3, _, r1, r2, ⟨y0, y1, y2, y3, y4⟩, hN⟩ := matp_at0 (HG.out.to HB2.out) hqn hqn
          obtain ⟨x, hx⟩ : ∃ x, x = g q q := ⟨_, rfl⟩
          rw [← hx] at y0 y1 y2 y3 y4 hN
          have zx : sz B x := by rw [hx]; exact HS.out q q hqn hqn
          have HX := Lib.hid hx
          replace hlO2 := Nat.lt_of_lt_of_le hlO HB2.out.size
          clear hx
          go_upto_region 8 with fail
          obtain ⟨w3, hw3⟩ : ∃ X : World, X = w2.alloc (.cells #[.bool (sn (na x)), .slice A1 (ln (ab (na x))) (ln (ab (na x))), .bool (sn (nb x)), .slice A2 (ln (ab (nb x))) (ln (ab (nb x))), .slice A3 (ln (un x)) (ln (un x))] 34) := ⟨_, rfl⟩
          have hv := hasP_new (T := 34) hN
          have hb3 : Below w2.heap.size w2 (w2.alloc (.cells #[.bool (sn (na x)), .slice A1 (ln (ab (na x))) (ln (ab (na x))), .bool (sn (nb x)), .slice A2 (ln (ab (nb x))) (ln (ab (nb x))), .slice A3 (ln (un x)) (ln (un x))] 34)) := (Below.refl _ _).alloc (Nat.le_refl _) _
          rw [← hw3] at hv hb3 ⊢
          obtain ⟨gs, hgs⟩ : ∃ x, x = w2.heap.size := ⟨_, rfl⟩
          rw [← hgs] at hv ⊢
          have HGS := Lib.hid (show w.heap.size ≤ gs by rw [hgs]; exact HB2.out.size)
          have HB3 := Lib.hid (HB2.out.trans (hb3.mono HB2.out.size))
          clear hw3 hN y0 y1 y2 y3 y4 r1 r2 hgs hb3 HB2 hlO2
          obtain ⟨S1, S2, S3, ⟨y0, y1, y2, y3, y4⟩, hN⟩ := hv.slot
          have hl := hv.1
          have HVX := Lib.hid hv
          clear hv
          have zx2 : sz 137438953472 x := zx.mono (by omega)
          go_wp2_with fail
          refine (cmp_zero0 x S1 S2 S3 _ hN zx2).mono ?_
          rintro e w4 ⟨rfl, hb⟩
          replace HB3 := Lib.hid (HB3.out.trans (hb.mono HB3.out.size))
          replace HVX := Lib.hid (HVX.out.to hb)
          clear hb y0 y1 y2 y3 y4 hN hl
          go_upto_if 46 with fail
          obtain ⟨xa, hxa⟩ : ∃ y, y = absC x := ⟨_, rfl⟩
          have HXA := Lib.hid hxa
          clear hxa
          go_cut [] from 21 to 91 (fun wx => HasP wx gs xa ∧ Below w.heap.size w wx)
          case first =>
            by_cases hc : cmpC x Cx.zero < 0
            · have t1 : decide (cmpC x Cx.zero < 0) = true := decide_eq_true hc
              have e1 : xa = x.neg := by rw [HXA.out]; exact if_pos hc
              have HE1 := Lib.hid e1
              clear e1
              obtain ⟨S1, S2, S3, ⟨y0, y1, y2, y3, y4⟩, hN⟩ := HVX.out.slot
              have hl := HVX.out.1
              go_wp2_with fail
              refine (neg_any x S1 S2 S3 _ hN).mono ?_
              rintro e w5 ⟨E1, E2, E3, rfl, hNN, hb⟩
              have hv6 := (HVX.out.to hb).var
              have hv5 := hv6
              obtain ⟨_, ⟨cb2, u1, u2, u3, u4, d0, d1, d2, d3, d4⟩, ⟨f0, f1, f2, f3, f4⟩⟩ := hv5
              clear y0 y1 y2 y3 y4
              have HBN := Lib.hid (set5_below (q := x.neg) (A1 := E1) (A2 := E2) (A3 := E3) (HB3.out.trans (hb.mono HB3.out.size)) HGS.out)
              have HHP := Lib.hid (hv6.putP hNN)
              obtain ⟨XX, hX⟩ : ∃ XX : World, XX = set5 w5 gs x.neg E1 E2 E3 := ⟨_, rfl⟩
              rw [← hX] at HBN HHP
              go_wp2_with fail
              go_meet
              have hw : set5 w5 gs x.neg E1 E2 E3 = XX := hX.symm
              unfold set5 at hw
              rw [hw, HE1.out]
              exact ⟨HHP.out, HBN.out⟩
            · have t1 : decide (cmpC x Cx.zero < 0) = false := decide_eq_false hc
              have e1 : xa = x := by rw [HXA.out]; exact if_neg hc
              have hc2 : 0 ≤ cmpC x Cx.zero := by omega
              have E1 := Lib.hid e1
              clear e1
              go_wp2_with fail
              go_meet
              rw [E1.out]
              exact ⟨HVX.out, HB3.out⟩
          case rest =>
            obtain ⟨hv, hb⟩ := hcut
            clear HVX HB3 HGS zx2
            obtain ⟨w5, hw5⟩ : ∃ X : World, X = wc := ⟨_, rfl⟩
            rw [← hw5] at hv hb ⊢
            obtain ⟨S1, S2, S3, hsc, hsn⟩ := hv.slot
            have hr3 := hv.1
            obtain ⟨gr, kr, B1, B2, B3, _, r1, r2, hds, hM⟩ := matp_at0 (HG.out.to hb) hi hqn
            rw [← HY.out] at hds hM
            have hlO2 := Nat.lt_of_lt_of_le hlO hb.size
            have zxa : sz B xa := by rw [HXA.out]; exact sz_absC zx
            have zn := sz_norm zy
            have zs1 := sz_add2 zxa sz_one
            have zs2 := sz_add2 zn zn
            have zF := sz_crS hB zx zy HZY.out
            obtain ⟨F, hF⟩ : ∃ q, q = crS x y := ⟨_, rfl⟩
            have hF2 : (xa.add (Cx.ofInt 1)).div (y.norm.add y.norm) = F := by rw [hF, HXA.out]; rfl
            rw [← hF] at zF
            have HFF := Lib.hid hF
            have HFE := Lib.hid hF2
            have ZZ := Lib.hid (And.intro (zxa.mono (show _ ≤ 137438953472 by omega)) (And.intro (zy.mono (show _ ≤ 137438953472 by omega)) (And.intro (zn.mono (show _ ≤ 137438953472 by omega)) (And.intro (zs1.mono (show _ ≤ 137438953472 by omega)) (And.intro (zs2.mono (show _ ≤ 137438953472 by omega)) (And.intro (crD_ne HZY.out) (sz_one.mono (show 1 ≤ 137438953472 by decide))))))))
            have ZF := Lib.hid zF
            have ZY := Lib.hid zy
            have HB5 := Lib.hid hb
            clear hv hb hw5 zxa zn zs1 zs2 zF hF hF2 HXA zx zy HZY
            go_upto_region 10 with fail
            refine wp_region_any (by kernel_rfl) ?_
            refine wpAny_inv (fun l a' w' => ∃ V : Nat → Value, ∃ xa1 xa2 xa10 xa18 xa19 xa20 xa21 xa22 xa23 xa24 xa26 : Value, a' = ⟨List.toArray (.slice (some ⟨gO, 0, none⟩) n cg :: .slice (some ⟨vO, 0, none⟩) n cv :: .int .i64 ↑i :: undef :: undef :: undef :: u6 :: .int .i64 ↑q :: .pointer (some ⟨gs, 0, none⟩) :: xa24 :: xa26 :: .slice (some ⟨gO, 0, none⟩) n cg :: .int .i64 ↑i :: .pointer (some ⟨gO, i, none⟩) :: .slice (some ⟨gr0, 0, none⟩) n kr0 :: .int .i64 ↑i :: .pointer (some { block := gr0, off := i * 5 }) :: .agg #[.bool (sn (na xx)), .slice Z1 (ln (ab (na xx))) (ln (ab (na xx))), .bool (sn (nb xx)), .slice Z2 (ln (ab (nb xx))) (ln (ab (nb xx))), .slice Z3 (ln (un xx)) (ln (un xx))] :: .bool false :: .int .i64 ↑i :: .int .i64 (↑i + 1) :: u21 :: u22 :: u23 :: u24 :: u25 :: u26 :: u27 :: u28 :: u29 :: u30 :: u31 :: u32 :: u33 :: u34 :: u35 :: u36 :: u37 :: u38 :: u39 :: u40 :: u41 :: u42 :: u43 :: u44 :: u45 :: u46 :: u47 :: u48 :: xa21 :: V 0 :: xa1 :: xa2 :: V 3 :: V 4 :: V 5 :: V 6 :: V 7 :: V 8 :: V 9 :: xa10 :: V 11 :: V 12 :: V 13 :: V 14 :: V 15 :: V 16 :: V 17 :: xa18 :: xa19 :: xa20 :: xa22 :: xa23 :: u73 :: u74 :: u75 :: u76 :: u77 :: u78 :: u79 :: u80 :: u81 :: u82 :: u83 :: u84 :: u85 :: u86 :: u87 :: u88 :: u89 :: u90 :: u91 :: []), []⟩ ∧ OnFix l V (fun zz => List.getD [.agg #[.bool (sn (na xa)), .slice S1 (ln (ab (na xa))) (ln (ab (na xa))), .bool (sn (nb xa)), .slice S2 (ln (ab (nb xa))) (ln (ab (nb xa))), .slice S3 (ln (un xa)) (ln (un xa))], undef, undef, .slice (some ⟨gO, 0, none⟩) n cg, .int .i64 i, .pointer (some ⟨gO, i, none⟩), .slice (some ⟨gr, 0, none⟩) n kr, .int .i64 q, .pointer (some ⟨gr, q * 5, none⟩), .agg #[.bool (sn (na y)), .slice B1 (ln (ab (na y))) (ln (ab (na y))), .bool (sn (nb y)), .slice B2 (ln (ab (nb y))) (ln (ab (nb y))), .slice B3 (ln (un y)) (ln (un y))], undef, .slice (some ⟨gO, 0, none⟩) n cg, .int .i64 i, .pointer (some ⟨gO, i, none⟩), .slice (some ⟨gr, 0, none⟩) n kr, .int .i64 q, .pointer (some ⟨gr, q * 5, none⟩), .agg #[.bool (sn (na y)), .slice B1 (ln (ab (na y))) (ln (ab (na y))), .bool (sn (nb y)), .slice B2 (ln (ab (nb y))) (ln (ab (nb y))), .slice B3 (ln (un y)) (ln (un y))], undef, undef, undef, undef, undef, undef, undef, undef, undef] zz undef) [0, 3, 4, 5, 6, 7, 8, 9, 11, 12, 13, 14, 15, 16, 17] ∧ Off l 25 (Below w5.heap.size w5 w' ∧ On l 1 (SlotNum w' xa1 (Cx.ofInt 1)) ∧ On l 2 (SlotNum w' xa2 (xa.add (Cx.ofInt 1))) ∧ On l 10 (SlotNum w' xa10 (y.norm)) ∧ On l 18 (SlotNum w' xa18 (y.norm)) ∧ On l 19 (SlotNum w' xa19 (y.norm.add y.norm)) ∧ On l 20 (SlotNumE w' xa20 F) ∧ On l 21 (SlotNumE w' xa21 F) ∧ On l 22 (SlotNum w' xa22 F) ∧ On l 24 (AtV w5.heap.size w' xa24)) ∧ On l 25 (∃ gt, xa24 = .pointer (some ⟨gt, 0, none⟩) ∧ w5.heap.size ≤ gt ∧ HasP w' gt F ∧ Below w5.heap.size w5 w') ∧ On l 21 (∃ A, xa21 = .tuple #[A, .int .i64 0]) ∧ Edg l [(25, 22), (22, 21), (21, 20), (20, 2), (2, 0), (2, 1), (20, 19), (19, 10), (10, 9), (9, 8), (8, 6), (19, 18), (18, 17), (17, 16), (16, 14), (25, 24)] ∧ l.size = 27) ?_ ?_ _ _ _ _ (by decide) ?_
            · intro l a' W' i hi hI
              obtain ⟨V, xa1, xa2, xa10, xa18, xa19, xa20, xa21, xa22, xa23, xa24, xa26, rfl, hv, hZ, hM0, hP21, hE, hz⟩ := hI
              obtain ⟨hlt, hoff, hpre⟩ := ready_pre hi
              have hc : i ∈ [0, 1, 2, 3, 4, 5, 6, 7, 8, 9, 10, 11, 12, 13, 14, 15, 16, 17, 18, 19, 20, 21, 22, 23, 24, 25, 26] := (by decide : ∀ i, i < 27 → i ∈ [0, 1, 2, 3, 4, 5, 6, 7, 8, 9, 10, 11, 12, 13, 14, 15, 16, 17, 18, 19, 20, 21, 22, 23, 24, 25, 26]) i hlt
              simp only [List.mem_cons, List.not_mem_nil, or_false] at hc
              clear hi hlt
              rcases hc with rfl | rfl | rfl | rfl | rfl | rfl | rfl | rfl | rfl | rfl | rfl | rfl | rfl | rfl | rfl | rfl | rfl | rfl | rfl | rfl | rfl | rfl | rfl | rfl | rfl | rfl | rfl <;> (have hp := hpre _ rfl; simp [Region.binds] at hp; clear hpre)
              · skip
                have HV := Lib.hid hv
                clear hv
                have hY := hZ.get (fun h => off hoff (hE.get 2 0 (by decide) (hE.get 20 2 (by decide) (hE.get 21 20 (by decide) (hE.get 22 21 (by decide) (hE.get 25 22 (by decide) h))))))
                obtain ⟨z0, z1, z2, z3, z4⟩ := hsc
                have y0 := keepc hY.1 z0 hr3; have y1 := keepc hY.1 z1 hr3; have y2 := keepc hY.1 z2 hr3; have y3 := keepc hY.1 z3 hr3; have y4 := keepc hY.1 z4 hr3
                refine wpOp_go rfl rfl (fun K hK => ?_)
                go_simp
                refine hK _ _ ?_
                exact ⟨_, _, _, _, _, _, _, _, _, _, _, _, rfl, HV.out.new (x := .agg #[.bool (sn (na xa)), .slice S1 (ln (ab (na xa))) (ln (ab (na xa))), .bool (sn (nb xa)), .slice S2 (ln (ab (nb xa))) (ln (ab (nb xa))), .slice S3 (ln (un xa)) (ln (un xa))]) rfl, hZ.keep.map (fun ⟨hb0, y1, y2, y10, y18, y19, y20, y21, y22, y24⟩ => ⟨hb0, y1.keep (by decide), y2.keep (by decide), y10.keep (by decide), y18.keep (by decide), y19.keep (by decide), y20.keep (by decide), y21.keep (by decide), y22.keep (by decide), y24.keep (by decide)⟩), hM0.keep (by decide), hP21.keep (j := 0) (by decide), hE.mono (by decide), by simp [hz]⟩
              · skip
                have HV := Lib.hid hv
                clear hv
                have hY := hZ.get (fun h => off hoff (hE.get 2 1 (by decide) (hE.get 20 2 (by decide) (hE.get 21 20 (by decide) (hE.get 22 21 (by decide) (hE.get 25 22 (by decide) h))))))
                refine wpOp_go rfl rfl (fun K hK => ?_)
                go_wp2_with (first | (go_at_call 31; refine (int_any 1 _ (by decide) (by decide)).mono ?_; rintro e w6 ⟨E1, E2, E3, rfl, hNN, hb⟩))
                try refine hK _ _ ?_
                exact ⟨_, _, _, _, _, _, _, _, _, _, _, _, rfl, HV.out.other (by decide), Off.new ⟨hY.1.trans (hb.mono hY.1.size), On.new (⟨E1, E2, E3, rfl, hNN⟩), ((hY.2.2.1).keep (by decide)).map (fun h => h.to hb), ((hY.2.2.2.1).keep (by decide)).map (fun h => h.to hb), ((hY.2.2.2.2.1).keep (by decide)).map (fun h => h.to hb), ((hY.2.2.2.2.2.1).keep (by decide)).map (fun h => h.to hb), ((hY.2.2.2.2.2.2.1).keep (by decide)).map (fun h => h.to hb), ((hY.2.2.2.2.2.2.2.1).keep (by decide)).map (fun h => h.to hb), ((hY.2.2.2.2.2.2.2.2.1).keep (by decide)).map (fun h => h.to hb), ((hY.2.2.2.2.2.2.2.2.2).keep (by decide)).map (fun h => h.to hb)⟩, fun h => absurd (hE.get 2 1 (by decide) (hE.get 20 2 (by decide) (hE.get 21 20 (by decide) (hE.get 22 21 (by decide) (hE.get 25 22 (by decide) (on_ne h (by decide))))))) (off hoff), hP21.keep (j := 1) (by decide), hE.mono (by decide), by simp [hz]⟩
              · skip
                have e0 : V 0 = .agg #[.bool (sn (na xa)), .slice S1 (ln (ab (na xa))) (ln (ab (na xa))), .bool (sn (nb xa)), .slice S2 (ln (ab (nb xa))) (ln (ab (nb xa))), .slice S3 (ln (un xa)) (ln (un xa))] := hv.get 0 (by decide) (by simp [hp])
                have HV := Lib.hid (hv.fixE e0 rfl)
                clear hv
                simp only [e0]
                have hY := hZ.get (fun h => off hoff (hE.get 20 2 (by decide) (hE.get 21 20 (by decide) (hE.get 22 21 (by decide) (hE.get 25 22 (by decide) h)))))
                obtain ⟨G1, G2, G3, eG, hMM⟩ := hY.2.1.get (by simp [hp])
                subst eG
                refine wpOp_go rfl rfl (fun K hK => ?_)
                go_wp2_with (first | (go_at_call 22; refine (add_num xa (Cx.ofInt 1) S1 S2 S3 G1 G2 G3 _ (hsn.to hY.1) hMM ZZ.out.1 ZZ.out.2.2.2.2.2.2).mono ?_; rintro e w6 ⟨E1, E2, E3, rfl, hNN, hb⟩))
                try refine hK _ _ ?_
                exact ⟨_, _, _, _, _, _, _, _, _, _, _, _, rfl, HV.out.other (by decide), Off.new ⟨hY.1.trans (hb.mono hY.1.size), ((hY.2.1).keep (by decide)).map (fun h => h.to hb), On.new (⟨E1, E2, E3, rfl, hNN⟩), ((hY.2.2.2.1).keep (by decide)).map (fun h => h.to hb), ((hY.2.2.2.2.1).keep (by decide)).map (fun h => h.to hb), ((hY.2.2.2.2.2.1).keep (by decide)).map (fun h => h.to hb), ((hY.2.2.2.2.2.2.1).keep (by decide)).map (fun h => h.to hb), ((hY.2.2.2.2.2.2.2.1).keep (by decide)).map (fun h => h.to hb), ((hY.2.2.2.2.2.2.2.2.1).keep (by decide)).map (fun h => h.to hb), ((hY.2.2.2.2.2.2.2.2.2).keep (by decide)).map (fun h => h.to hb)⟩, fun h => absurd (hE.get 20 2 (by decide) (hE.get 21 20 (by decide) (hE.get 22 21 (by decide) (hE.get 25 22 (by decide) (on_ne h (by decide)))))) (off hoff), hP21.keep (j := 2) (by decide), hE.step (by simp [hp]), by simp [hz]⟩
              · skip
                have HV := Lib.hid hv
                clear hv
                refine wpOp_go rfl rfl (fun K hK => ?_)
                go_simp
                refine hK _ _ ?_
                exact ⟨_, _, _, _, _, _, _, _, _, _, _, _, rfl, HV.out.new (x := .slice (some ⟨gO, 0, none⟩) n cg) rfl, hZ.keep.map (fun ⟨hb0, y1, y2, y10, y18, y19, y20, y21, y22, y24⟩ => ⟨hb0, y1.keep (by decide), y2.keep (by decide), y10.keep (by decide), y18.keep (by decide), y19.keep (by decide), y20.keep (by decide), y21.keep (by decide), y22.keep (by decide), y24.keep (by decide)⟩), hM0.keep (by decide), hP21.keep (j := 3) (by decide), hE.mono (by decide), by simp [hz]⟩
              · skip
                have HV := Lib.hid hv
                clear hv
                refine wpOp_go rfl rfl (fun K hK => ?_)
                go_simp
                refine hK _ _ ?_
                exact ⟨_, _, _, _, _, _, _, _, _, _, _, _, rfl, HV.out.new (x := .int .i64 i) rfl, hZ.keep.map (fun ⟨hb0, y1, y2, y10, y18, y19, y20, y21, y22, y24⟩ => ⟨hb0, y1.keep (by decide), y2.keep (by decide), y10.keep (by decide), y18.keep (by decide), y19.keep (by decide), y20.keep (by decide), y21.keep (by decide), y22.keep (by decide), y24.keep (by decide)⟩), hM0.keep (by decide), hP21.keep (j := 4) (by decide), hE.mono (by decide), by simp [hz]⟩
              · skip
                have e3 : V 3 = .slice (some ⟨gO, 0, none⟩) n cg := hv.get 3 (by decide) (by simp [hp])
                have e4 : V 4 = .int .i64 i := hv.get 4 (by decide) (by simp [hp])
                have HV := Lib.hid ((hv.fixE e3 rfl).fixE e4 rfl)
                clear hv
                simp only [e3, e4]
                refine wpOp_go rfl rfl (fun K hK => ?_)
                go_simp
                refine hK _ _ ?_
                exact ⟨_, _, _, _, _, _, _, _, _, _, _, _, rfl, HV.out.new (x := .pointer (some ⟨gO, i, none⟩)) rfl, hZ.keep.map (fun ⟨hb0, y1, y2, y10, y18, y19, y20, y21, y22, y24⟩ => ⟨hb0, y1.keep (by decide), y2.keep (by decide), y10.keep (by decide), y18.keep (by decide), y19.keep (by decide), y20.keep (by decide), y21.keep (by decide), y22.keep (by decide), y24.keep (by decide)⟩), hM0.keep (by decide), hP21.keep (j := 5) (by decide), hE.mono (by decide), by simp [hz]⟩
              · skip
                have e5 : V 5 = .pointer (some ⟨gO, i, none⟩) := hv.get 5 (by decide) (by simp [hp])
                have HV := Lib.hid (hv.fixE e5 rfl)
                clear hv
                simp only [e5]
                have hY := hZ.get (fun h => off hoff (hE.get 8 6 (by decide) (hE.get 9 8 (by decide) (hE.get 10 9 (by decide) (hE.get 19 10 (by decide) (hE.get 20 19 (by decide) (hE.get 21 20 (by decide) (hE.get 22 21 (by decide) (hE.get 25 22 (by decide) h)))))))))
                have z := keepc hY.1 r1 hlO2
                refine wpOp_go rfl rfl (fun K hK => ?_)
                go_simp
                refine hK _ _ ?_
                exact ⟨_, _, _, _, _, _, _, _, _, _, _, _, rfl, HV.out.new (x := .slice (some ⟨gr, 0, none⟩) n kr) rfl, hZ.keep.map (fun ⟨hb0, y1, y2, y10, y18, y19, y20, y21, y22, y24⟩ => ⟨hb0, y1.keep (by decide), y2.keep (by decide), y10.keep (by decide), y18.keep (by decide), y19.keep (by decide), y20.keep (by decide), y21.keep (by decide), y22.keep (by decide), y24.keep (by decide)⟩), hM0.keep (by decide), hP21.keep (j := 6) (by decide), hE.mono (by decide), by simp [hz]⟩
              · skip
                have HV := Lib.hid hv
                clear hv
                refine wpOp_go rfl rfl (fun K hK => ?_)
                go_simp
                refine hK _ _ ?_
                exact ⟨_, _, _, _, _, _, _, _, _, _, _, _, rfl, HV.out.new (x := .int .i64 q) rfl, hZ.keep.map (fun ⟨hb0, y1, y2, y10, y18, y19, y20, y21, y22, y24⟩ => ⟨hb0, y1.keep (by decide), y2.keep (by decide), y10.keep (by decide), y18.keep (by decide), y19.keep (by decide), y20.keep (by decide), y21.keep (by decide), y22.keep (by decide), y24.keep (by decide)⟩), hM0.keep (by decide), hP21.keep (j := 7) (by decide), hE.mono (by decide), by simp [hz]⟩
              · skip
                have e6 : V 6 = .slice (some ⟨gr, 0, none⟩) n kr := hv.get 6 (by decide) (by simp [hp])
                have e7 : V 7 = .int .i64 q := hv.get 7 (by decide) (by simp [hp])
                have HV := Lib.hid ((hv.fixE e6 rfl).fixE e7 rfl)
                clear hv
                simp only [e6, e7]
                refine wpOp_go rfl rfl (fun K hK => ?_)
                go_simp
                refine hK _ _ ?_
                exact ⟨_, _, _, _, _, _, _, _, _, _, _, _, rfl, HV.out.new (x := .pointer (some ⟨gr, q * 5, none⟩)) rfl, hZ.keep.map (fun ⟨hb0, y1, y2, y10, y18, y19, y20, y21, y22, y24⟩ => ⟨hb0, y1.keep (by decide), y2.keep (by decide), y10.keep (by decide), y18.keep (by decide), y19.keep (by decide), y20.keep (by decide), y21.keep (by decide), y22.keep (by decide), y24.keep (by decide)⟩), hM0.keep (by decide), hP21.keep (j := 8) (by decide), hE.step (by simp [hp]), by simp [hz]⟩
              · skip
                have e8 : V 8 = .pointer (some ⟨gr, q * 5, none⟩) := hv.get 8 (by decide) (by simp [hp])
                have HV := Lib.hid (hv.fixE e8 rfl)
                clear hv
                simp only [e8]
                have hY := hZ.get (fun h => off hoff (hE.get 10 9 (by decide) (hE.get 19 10 (by decide) (hE.get 20 19 (by decide) (hE.get 21 20 (by decide) (hE.get 22 21 (by decide) (hE.get 25 22 (by decide) h)))))))
                obtain ⟨z0, z1, z2, z3, z4⟩ := hds
                have y0 := keepc hY.1 z0 r2; have y1 := keepc hY.1 z1 r2; have y2 := keepc hY.1 z2 r2; have y3 := keepc hY.1 z3 r2; have y4 := keepc hY.1 z4 r2
                refine wpOp_go rfl rfl (fun K hK => ?_)
                go_simp
                refine hK _ _ ?_
                exact ⟨_, _, _, _, _, _, _, _, _, _, _, _, rfl, HV.out.new (x := .agg #[.bool (sn (na y)), .slice B1 (ln (ab (na y))) (ln (ab (na y))), .bool (sn (nb y)), .slice B2 (ln (ab (nb y))) (ln (ab (nb y))), .slice B3 (ln (un y)) (ln (un y))]) rfl, hZ.keep.map (fun ⟨hb0, y1, y2, y10, y18, y19, y20, y21, y22, y24⟩ => ⟨hb0, y1.keep (by decide), y2.keep (by decide), y10.keep (by decide), y18.keep (by decide), y19.keep (by decide), y20.keep (by decide), y21.keep (by decide), y22.keep (by decide), y24.keep (by decide)⟩), hM0.keep (by decide), hP21.keep (j := 9) (by decide), hE.step (by simp [hp]), by simp [hz]⟩
              · skip
                have e9 : V 9 = .agg #[.bool (sn (na y)), .slice B1 (ln (ab (na y))) (ln (ab (na y))), .bool (sn (nb y)), .slice B2 (ln (ab (nb y))) (ln (ab (nb y))), .slice B3 (ln (un y)) (ln (un y))] := hv.get 9 (by decide) (by simp [hp])
                have HV := Lib.hid (hv.fixE e9 rfl)
                clear hv
                simp only [e9]
                have hY := hZ.get (fun h => off hoff (hE.get 19 10 (by decide) (hE.get 20 19 (by decide) (hE.get 21 20 (by decide) (hE.get 22 21 (by decide) (hE.get 25 22 (by decide) h))))))
                refine wpOp_go rfl rfl (fun K hK => ?_)
                go_wp2_with (first | (go_at_call 42; refine (norm_num y B1 B2 B3 _ (hM.to hY.1) ZZ.out.2.1).mono ?_; rintro e w6 ⟨E1, E2, E3, rfl, hNN, hb⟩))
                try refine hK _ _ ?_
                exact ⟨_, _, _, _, _, _, _, _, _, _, _, _, rfl, HV.out.other (by decide), Off.new ⟨hY.1.trans (hb.mono hY.1.size), ((hY.2.1).keep (by decide)).map (fun h => h.to hb), ((hY.2.2.1).keep (by decide)).map (fun h => h.to hb), On.new (⟨E1, E2, E3, rfl, hNN⟩), ((hY.2.2.2.2.1).keep (by decide)).map (fun h => h.to hb), ((hY.2.2.2.2.2.1).keep (by decide)).map (fun h => h.to hb), ((hY.2.2.2.2.2.2.1).keep (by decide)).map (fun h => h.to hb), ((hY.2.2.2.2.2.2.2.1).keep (by decide)).map (fun h => h.to hb), ((hY.2.2.2.2.2.2.2.2.1).keep (by decide)).map (fun h => h.to hb), ((hY.2.2.2.2.2.2.2.2.2).keep (by decide)).map (fun h => h.to hb)⟩, fun h => absurd (hE.get 19 10 (by decide) (hE.get 20 19 (by decide) (hE.get 21 20 (by decide) (hE.get 22 21 (by decide) (hE.get 25 22 (by decide) (on_ne h (by decide))))))) (off hoff), hP21.keep (j := 10) (by decide), hE.step (by simp [hp]), by simp [hz]⟩
              · skip
                have HV := Lib.hid hv
                clear hv
                refine wpOp_go rfl rfl (fun K hK => ?_)
                go_simp
                refine hK _ _ ?_
                exact ⟨_, _, _, _, _, _, _, _, _, _, _, _, rfl, HV.out.new (x := .slice (some ⟨gO, 0, none⟩) n cg) rfl, hZ.keep.map (fun ⟨hb0, y1, y2, y10, y18, y19, y20, y21, y22, y24⟩ => ⟨hb0, y1.keep (by decide), y2.keep (by decide), y10.keep (by decide), y18.keep (by decide), y19.keep (by decide), y20.keep (by decide), y21.keep (by decide), y22.keep (by decide), y24.keep (by decide)⟩), hM0.keep (by decide), hP21.keep (j := 11) (by decide), hE.mono (by decide), by simp [hz]⟩
              · skip
                have HV := Lib.hid hv
                clear hv
                refine wpOp_go rfl rfl (fun K hK => ?_)
                go_simp
                refine hK _ _ ?_
                exact ⟨_, _, _, _, _, _, _, _, _, _, _, _, rfl, HV.out.new (x := .int .i64 i) rfl, hZ.keep.map (fun ⟨hb0, y1, y2, y10, y18, y19, y20, y21, y22, y24⟩ => ⟨hb0, y1.keep (by decide), y2.keep (by decide), y10.keep (by decide), y18.keep (by decide), y19.keep (by decide), y20.keep (by decide), y21.keep (by decide), y22.keep (by decide), y24.keep (by decide)⟩), hM0.keep (by decide), hP21.keep (j := 12) (by decide), hE.mono (by decide), by simp [hz]⟩
              · skip
                have e11 : V 11 = .slice (some ⟨gO, 0, none⟩) n cg := hv.get 11 (by decide) (by simp [hp])
                have e12 : V 12 = .int .i64 i := hv.get 12 (by decide) (by simp [hp])
                have HV := Lib.hid ((hv.fixE e11 rfl).fixE e12 rfl)
                clear hv
                simp only [e11, e12]
                refine wpOp_go rfl rfl (fun K hK => ?_)
                go_simp
                refine hK _ _ ?_
                exact ⟨_, _, _, _, _, _, _, _, _, _, _, _, rfl, HV.out.new (x := .pointer (some ⟨gO, i, none⟩)) rfl, hZ.keep.map (fun ⟨hb0, y1, y2, y10, y18, y19, y20, y21, y22, y24⟩ => ⟨hb0, y1.keep (by decide), y2.keep (by decide), y10.keep (by decide), y18.keep (by decide), y19.keep (by decide), y20.keep (by decide), y21.keep (by decide), y22.keep (by decide), y24.keep (by decide)⟩), hM0.keep (by decide), hP21.keep (j := 13) (by decide), hE.mono (by decide), by simp [hz]⟩
              · skip
                have e13 : V 13 = .pointer (some ⟨gO, i, none⟩) := hv.get 13 (by decide) (by simp [hp])
                have HV := Lib.hid (hv.fixE e13 rfl)
                clear hv
                simp only [e13]
                have hY := hZ.get (fun h => off hoff (hE.get 16 14 (by decide) (hE.get 17 16 (by decide) (hE.get 18 17 (by decide) (hE.get 19 18 (by decide) (hE.get 20 19 (by decide) (hE.get 21 20 (by decide) (hE.get 22 21 (by decide) (hE.get 25 22 (by decide) h)))))))))
                have z := keepc hY.1 r1 hlO2
                refine wpOp_go rfl rfl (fun K hK => ?_)
                go_simp
                refine hK _ _ ?_
                exact ⟨_, _, _, _, _, _, _, _, _, _, _, _, rfl, HV.out.new (x := .slice (some ⟨gr, 0, none⟩) n kr) rfl, hZ.keep.map (fun ⟨hb0, y1, y2, y10, y18, y19, y20, y21, y22, y24⟩ => ⟨hb0, y1.keep (by decide), y2.keep (by decide), y10.keep (by decide), y18.keep (by decide), y19.keep (by decide), y20.keep (by decide), y21.keep (by decide), y22.keep (by decide), y24.keep (by decide)⟩), hM0.keep (by decide), hP21.keep (j := 14) (by decide), hE.mono (by decide), by simp [hz]⟩
              · skip
                have HV := Lib.hid hv
                clear hv
                refine wpOp_go rfl rfl (fun K hK => ?_)
                go_simp
                refine hK _ _ ?_
                exact ⟨_, _, _, _, _, _, _, _, _, _, _, _, rfl, HV.out.new (x := .int .i64 q) rfl, hZ.keep.map (fun ⟨hb0, y1, y2, y10, y18, y19, y20, y21, y22, y24⟩ => ⟨hb0, y1.keep (by decide), y2.keep (by decide), y10.keep (by decide), y18.keep (by decide), y19.keep (by decide), y20.keep (by decide), y21.keep (by decide), y22.keep (by decide), y24.keep (by decide)⟩), hM0.keep (by decide), hP21.keep (j := 15) (by decide), hE.mono (by decide), by simp [hz]⟩
              · skip
                have e14 : V 14 = .slice (some ⟨gr, 0, none⟩) n kr := hv.get 14 (by decide) (by simp [hp])
                have e15 : V 15 = .int .i64 q := hv.get 15 (by decide) (by simp [hp])
                have HV := Lib.hid ((hv.fixE e14 rfl).fixE e15 rfl)
                clear hv
                simp only [e14, e15]
                refine wpOp_go rfl rfl (fun K hK => ?_)
                go_simp
                refine hK _ _ ?_
                exact ⟨_, _, _, _, _, _, _, _, _, _, _, _, rfl, HV.out.new (x := .pointer (some ⟨gr, q * 5, none⟩)) rfl, hZ.keep.map (fun ⟨hb0, y1, y2, y10, y18, y19, y20, y21, y22, y24⟩ => ⟨hb0, y1.keep (by decide), y2.keep (by decide), y10.keep (by decide), y18.keep (by decide), y19.keep (by decide), y20.keep (by decide), y21.keep (by decide), y22.keep (by decide), y24.keep (by decide)⟩), hM0.keep (by decide), hP21.keep (j := 16) (by decide), hE.step (by simp [hp]), by simp [hz]⟩
              · skip
                have e16 : V 16 = .pointer (some ⟨gr, q * 5, none⟩) := hv.get 16 (by decide) (by simp [hp])
                have HV := Lib.hid (hv.fixE e16 rfl)
                clear hv
                simp only [e16]
                have hY := hZ.get (fun h => off hoff (hE.get 18 17 (by decide) (hE.get 19 18 (by decide) (hE.get 20 19 (by decide) (hE.get 21 20 (by decide) (hE.get 22 21 (by decide) (hE.get 25 22 (by decide) h)))))))
                obtain ⟨z0, z1, z2, z3, z4⟩ := hds
                have y0 := keepc hY.1 z0 r2; have y1 := keepc hY.1 z1 r2; have y2 := keepc hY.1 z2 r2; have y3 := keepc hY.1 z3 r2; have y4 := keepc hY.1 z4 r2
                refine wpOp_go rfl rfl (fun K hK => ?_)
                go_simp
                refine hK _ _ ?_
                exact ⟨_, _, _, _, _, _, _, _, _, _, _, _, rfl, HV.out.new (x := .agg #[.bool (sn (na y)), .slice B1 (ln (ab (na y))) (ln (ab (na y))), .bool (sn (nb y)), .slice B2 (ln (ab (nb y))) (ln (ab (nb y))), .slice B3 (ln (un y)) (ln (un y))]) rfl, hZ.keep.map (fun ⟨hb0, y1, y2, y10, y18, y19, y20, y21, y22, y24⟩ => ⟨hb0, y1.keep (by decide), y2.keep (by decide), y10.keep (by decide), y18.keep (by decide), y19.keep (by decide), y20.keep (by decide), y21.keep (by decide), y22.keep (by decide), y24.keep (by decide)⟩), hM0.keep (by decide), hP21.keep (j := 17) (by decide), hE.step (by simp [hp]), by simp [hz]⟩
              · skip
                have e17 : V 17 = .agg #[.bool (sn (na y)), .slice B1 (ln (ab (na y))) (ln (ab (na y))), .bool (sn (nb y)), .slice B2 (ln (ab (nb y))) (ln (ab (nb y))), .slice B3 (ln (un y)) (ln (un y))] := hv.get 17 (by decide) (by simp [hp])
                have HV := Lib.hid (hv.fixE e17 rfl)
                clear hv
                simp only [e17]
                have hY := hZ.get (fun h => off hoff (hE.get 19 18 (by decide) (hE.get 20 19 (by decide) (hE.get 21 20 (by decide) (hE.get 22 21 (by decide) (hE.get 25 22 (by decide) h))))))
                refine wpOp_go rfl rfl (fun K hK => ?_)
                go_wp2_with (first | (go_at_call 42; refine (norm_num y B1 B2 B3 _ (hM.to hY.1) ZZ.out.2.1).mono ?_; rintro e w6 ⟨E1, E2, E3, rfl, hNN, hb⟩))
                try refine hK _ _ ?_
                exact ⟨_, _, _, _, _, _, _, _, _, _, _, _, rfl, HV.out.other (by decide), Off.new ⟨hY.1.trans (hb.mono hY.1.size), ((hY.2.1).keep (by decide)).map (fun h => h.to hb), ((hY.2.2.1).keep (by decide)).map (fun h => h.to hb), ((hY.2.2.2.1).keep (by decide)).map (fun h => h.to hb), On.new (⟨E1, E2, E3, rfl, hNN⟩), ((hY.2.2.2.2.2.1).keep (by decide)).map (fun h => h.to hb), ((hY.2.2.2.2.2.2.1).keep (by decide)).map (fun h => h.to hb), ((hY.2.2.2.2.2.2.2.1).keep (by decide)).map (fun h => h.to hb), ((hY.2.2.2.2.2.2.2.2.1).keep (by decide)).map (fun h => h.to hb), ((hY.2.2.2.2.2.2.2.2.2).keep (by decide)).map (fun h => h.to hb)⟩, fun h => absurd (hE.get 19 18 (by decide) (hE.get 20 19 (by decide) (hE.get 21 20 (by decide) (hE.get 22 21 (by decide) (hE.get 25 22 (by decide) (on_ne h (by decide))))))) (off hoff), hP21.keep (j := 18) (by decide), hE.step (by simp [hp]), by simp [hz]⟩
              · skip
                have HV := Lib.hid hv
                clear hv
                have hY := hZ.get (fun h => off hoff (hE.get 20 19 (by decide) (hE.get 21 20 (by decide) (hE.get 22 21 (by decide) (hE.get 25 22 (by decide) h)))))
                obtain ⟨G1, G2, G3, eG, hMM⟩ := hY.2.2.2.1.get (by simp [hp])
                subst eG
                obtain ⟨H1, H2, H3, eH, hMN⟩ := hY.2.2.2.2.1.get (by simp [hp])
                subst eH
                refine wpOp_go rfl rfl (fun K hK => ?_)
                go_wp2_with (first | (go_at_call 22; refine (add_num y.norm y.norm G1 G2 G3 H1 H2 H3 _ hMM hMN ZZ.out.2.2.1 ZZ.out.2.2.1).mono ?_; rintro e w6 ⟨E1, E2, E3, rfl, hNN, hb⟩))
                try refine hK _ _ ?_
                exact ⟨_, _, _, _, _, _, _, _, _, _, _, _, rfl, HV.out.other (by decide), Off.new ⟨hY.1.trans (hb.mono hY.1.size), ((hY.2.1).keep (by decide)).map (fun h => h.to hb), ((hY.2.2.1).keep (by decide)).map (fun h => h.to hb), ((hY.2.2.2.1).keep (by decide)).map (fun h => h.to hb), ((hY.2.2.2.2.1).keep (by decide)).map (fun h => h.to hb), On.new (⟨E1, E2, E3, rfl, hNN⟩), ((hY.2.2.2.2.2.2.1).keep (by decide)).map (fun h => h.to hb), ((hY.2.2.2.2.2.2.2.1).keep (by decide)).map (fun h => h.to hb), ((hY.2.2.2.2.2.2.2.2.1).keep (by decide)).map (fun h => h.to hb), ((hY.2.2.2.2.2.2.2.2.2).keep (by decide)).map (fun h => h.to hb)⟩, fun h => absurd (hE.get 20 19 (by decide) (hE.get 21 20 (by decide) (hE.get 22 21 (by decide) (hE.get 25 22 (by decide) (on_ne h (by decide)))))) (off hoff), hP21.keep (j := 19) (by decide), hE.step (by simp [hp]), by simp [hz]⟩
              · skip
                have HV := Lib.hid hv
                clear hv
                have hY := hZ.get (fun h => off hoff (hE.get 21 20 (by decide) (hE.get 22 21 (by decide) (hE.get 25 22 (by decide) h))))
                obtain ⟨G1, G2, G3, eG, hMM⟩ := hY.2.2.1.get (by simp [hp])
                subst eG
                obtain ⟨H1, H2, H3, eH, hMN⟩ := hY.2.2.2.2.2.1.get (by simp [hp])
                subst eH
                refine wpOp_go rfl rfl (fun K hK => ?_)
                go_wp2_with (first | (go_at_call 40; refine (div_num0 (xa.add (Cx.ofInt 1)) (y.norm.add y.norm) G1 G2 G3 H1 H2 H3 _ hMM hMN ZZ.out.2.2.2.1 ZZ.out.2.2.2.2.1 ZZ.out.2.2.2.2.2.1).mono ?_; rintro e w6 ⟨E1, E2, E3, rfl, hNN, hb⟩))
                rw [HFE.out] at hNN ⊢
                try refine hK _ _ ?_
                exact ⟨_, _, _, _, _, _, _, _, _, _, _, _, rfl, HV.out.other (by decide), Off.new ⟨hY.1.trans (hb.mono hY.1.size), ((hY.2.1).keep (by decide)).map (fun h => h.to hb), ((hY.2.2.1).keep (by decide)).map (fun h => h.to hb), ((hY.2.2.2.1).keep (by decide)).map (fun h => h.to hb), ((hY.2.2.2.2.1).keep (by decide)).map (fun h => h.to hb), ((hY.2.2.2.2.2.1).keep (by decide)).map (fun h => h.to hb), On.new (⟨E1, E2, E3, rfl, hNN⟩), ((hY.2.2.2.2.2.2.2.1).keep (by decide)).map (fun h => h.to hb), ((hY.2.2.2.2.2.2.2.2.1).keep (by decide)).map (fun h => h.to hb), ((hY.2.2.2.2.2.2.2.2.2).keep (by decide)).map (fun h => h.to hb)⟩, fun h => absurd (hE.get 21 20 (by decide) (hE.get 22 21 (by decide) (hE.get 25 22 (by decide) (on_ne h (by decide))))) (off hoff), hP21.keep (j := 20) (by decide), hE.step (by simp [hp]), by simp [hz]⟩
              · skip
                have HV := Lib.hid hv
                clear hv
                have hY := hZ.get (fun h => off hoff (hE.get 22 21 (by decide) (hE.get 25 22 (by decide) h)))
                obtain ⟨G1, G2, G3, eG, hMM⟩ := hY.2.2.2.2.2.2.1.get (by simp [hp])
                subst eG
                refine wpOp_go rfl rfl (fun K hK => ?_)
                go_simp
                refine hK _ _ ?_
                exact ⟨_, _, _, _, _, _, _, _, _, _, _, _, rfl, HV.out.other (by decide), Off.new ⟨hY.1, ((hY.2.1).keep (by decide)).map (fun h => h), ((hY.2.2.1).keep (by decide)).map (fun h => h), ((hY.2.2.2.1).keep (by decide)).map (fun h => h), ((hY.2.2.2.2.1).keep (by decide)).map (fun h => h), ((hY.2.2.2.2.2.1).keep (by decide)).map (fun h => h), ((hY.2.2.2.2.2.2.1).keep (by decide)).map (fun h => h), On.new (⟨G1, G2, G3, rfl, hMM⟩), ((hY.2.2.2.2.2.2.2.2.1).keep (by decide)).map (fun h => h), ((hY.2.2.2.2.2.2.2.2.2).keep (by decide)).map (fun h => h)⟩, fun h => absurd (hE.get 22 21 (by decide) (hE.get 25 22 (by decide) (on_ne h (by decide)))) (off hoff), On.new (⟨_, rfl⟩), hE.step (by simp [hp]), by simp [hz]⟩
              · skip
                have HV := Lib.hid hv
                clear hv
                have hY := hZ.get (fun h => off hoff (hE.get 25 22 (by decide) h))
                obtain ⟨G1, G2, G3, eG, hMM⟩ := hY.2.2.2.2.2.2.2.1.get (by simp [hp])
                subst eG
                refine wpOp_go rfl rfl (fun K hK => ?_)
                go_simp
                refine hK _ _ ?_
                exact ⟨_, _, _, _, _, _, _, _, _, _, _, _, rfl, HV.out.other (by decide), Off.new ⟨hY.1, ((hY.2.1).keep (by decide)).map (fun h => h), ((hY.2.2.1).keep (by decide)).map (fun h => h), ((hY.2.2.2.1).keep (by decide)).map (fun h => h), ((hY.2.2.2.2.1).keep (by decide)).map (fun h => h), ((hY.2.2.2.2.2.1).keep (by decide)).map (fun h => h), ((hY.2.2.2.2.2.2.1).keep (by decide)).map (fun h => h), ((hY.2.2.2.2.2.2.2.1).keep (by decide)).map (fun h => h), On.new (⟨G1, G2, G3, rfl, hMM⟩), ((hY.2.2.2.2.2.2.2.2.2).keep (by decide)).map (fun h => h)⟩, fun h => absurd (hE.get 25 22 (by decide) (on_ne h (by decide))) (off hoff), hP21.keep (j := 22) (by decide), hE.step (by simp [hp]), by simp [hz]⟩
              · skip
                have HV := Lib.hid hv
                clear hv
                obtain ⟨E0, e0⟩ := hP21.get (by simp [hp])
                subst e0
                refine wpOp_go rfl rfl (fun K hK => ?_)
                go_simp
                refine hK _ _ ?_
                exact ⟨_, _, _, _, _, _, _, _, _, _, _, _, rfl, HV.out.other (by decide), hZ.keep.map (fun ⟨hb0, y1, y2, y10, y18, y19, y20, y21, y22, y24⟩ => ⟨hb0, y1.keep (by decide), y2.keep (by decide), y10.keep (by decide), y18.keep (by decide), y19.keep (by decide), y20.keep (by decide), y21.keep (by decide), y22.keep (by decide), y24.keep (by decide)⟩), hM0.keep (by decide), hP21.keep (j := 23) (by decide), hE.mono (by decide), by simp [hz]⟩
              · skip
                have HV := Lib.hid hv
                clear hv
                have hY := hZ.get (fun h => off hoff (hE.get 25 24 (by decide) h))
                refine wpOp_go rfl rfl (fun K hK => ?_)
                go_simp
                refine hK _ _ ?_
                exact ⟨_, _, _, _, _, _, _, _, _, _, _, _, rfl, HV.out.other (by decide), Off.new ⟨hY.1.trans (((Below.refl _ _).alloc (Nat.le_refl _) _).mono hY.1.size), ((hY.2.1).keep (by decide)).map (fun h => h.to ((Below.refl _ _).alloc (Nat.le_refl _) _)), ((hY.2.2.1).keep (by decide)).map (fun h => h.to ((Below.refl _ _).alloc (Nat.le_refl _) _)), ((hY.2.2.2.1).keep (by decide)).map (fun h => h.to ((Below.refl _ _).alloc (Nat.le_refl _) _)), ((hY.2.2.2.2.1).keep (by decide)).map (fun h => h.to ((Below.refl _ _).alloc (Nat.le_refl _) _)), ((hY.2.2.2.2.2.1).keep (by decide)).map (fun h => h.to ((Below.refl _ _).alloc (Nat.le_refl _) _)), ((hY.2.2.2.2.2.2.1).keep (by decide)).map (fun h => h.to ((Below.refl _ _).alloc (Nat.le_refl _) _)), ((hY.2.2.2.2.2.2.2.1).keep (by decide)).map (fun h => h.to ((Below.refl _ _).alloc (Nat.le_refl _) _)), ((hY.2.2.2.2.2.2.2.2.1).keep (by decide)).map (fun h => h.to ((Below.refl _ _).alloc (Nat.le_refl _) _)), On.new (AtV.new hY.1.size)⟩, fun h => absurd (hE.get 25 24 (by decide) (on_ne h (by decide))) (off hoff), hP21.keep (j := 24) (by decide), hE.mono (by decide), by simp [hz]⟩
              · skip
                have HV := Lib.hid hv
                clear hv
                have hY := hZ.get (off hoff)
                obtain ⟨E1, E2, E3, eE, hNN⟩ := hY.2.2.2.2.2.2.2.2.1.get (by simp [hp])
                subst eE
                obtain ⟨gt, e2, hgt, hv5⟩ := hY.2.2.2.2.2.2.2.2.2.get (by simp [hp])
                subst e2
                have hv6 := hv5
                obtain ⟨_, ⟨cc, u1, u2, u3, u4, d0, d1, d2, d3, d4⟩, ⟨f0, f1, f2, f3, f4⟩⟩ := hv5
                refine wpOp_go rfl rfl (fun K hK => ?_)
                go_simp
                refine hK _ _ ?_
                obtain ⟨XX, hX⟩ : ∃ XX : World, XX = set5 W' gt F E1 E2 E3 := ⟨_, rfl⟩
                have hw : set5 W' gt F E1 E2 E3 = XX := hX.symm
                unfold set5 at hw
                rw [hw]
                subst hX
                exact ⟨_, _, _, _, _, _, _, _, _, _, _, _, rfl, HV.out.other (by decide), Off.done (by omega), On.new (⟨gt, rfl, hgt, hv6.putP hNN, set5_below hY.1 hgt⟩), hP21.keep (j := 25) (by decide), hE.step (by simp [hp]), by simp [hz]⟩
              · skip
                have HV := Lib.hid hv
                clear hv
                refine wpOp_go rfl rfl (fun K hK => ?_)
                go_simp
                refine hK _ _ ?_
                exact ⟨_, _, _, _, _, _, _, _, _, _, _, _, rfl, HV.out.other (by decide), hZ.keep.map (fun ⟨hb0, y1, y2, y10, y18, y19, y20, y21, y22, y24⟩ => ⟨hb0, y1.keep (by decide), y2.keep (by decide), y10.keep (by decide), y18.keep (by decide), y19.keep (by decide), y20.keep (by decide), y21.keep (by decide), y22.keep (by decide), y24.keep (by decide)⟩), hM0.keep (by decide), hP21.keep (j := 26) (by decide), hE.mono (by decide), by simp [hz]⟩
            · intro l a' W' hr hI
              obtain ⟨V, xa1, xa2, xa10, xa18, xa19, xa20, xa21, xa22, xa23, xa24, xa26, rfl, hv, hZ, hM0, hP21, hE, hz⟩ := hI
              have a0 := not_ready (i := 0) hr hz rfl (by simp [Region.binds])
              have a1 := not_ready (i := 1) hr hz rfl (by simp [Region.binds, a0])
              have a2 := not_ready (i := 2) hr hz rfl (by simp [Region.binds, a0, a1])
              have a3 := not_ready (i := 3) hr hz rfl (by simp [Region.binds, a0, a1, a2])
              have a4 := not_ready (i := 4) hr hz rfl (by simp [Region.binds, a0, a1, a2, a3])
              have a5 := not_ready (i := 5) hr hz rfl (by simp [Region.binds, a0, a1, a2, a3, a4])
              have a6 := not_ready (i := 6) hr hz rfl (by simp [Region.binds, a0, a1, a2, a3, a4, a5])
              have a7 := not_ready (i := 7) hr hz rfl (by simp [Region.binds, a0, a1, a2, a3, a4, a5, a6])
              have a8 := not_ready (i := 8) hr hz rfl (by simp [Region.binds, a0, a1, a2, a3, a4, a5, a6, a7])
              have a9 := not_ready (i := 9) hr hz rfl (by simp [Region.binds, a0, a1, a2, a3, a4, a5, a6, a7, a8])
              have a10 := not_ready (i := 10) hr hz rfl (by simp [Region.binds, a0, a1, a2, a3, a4, a5, a6, a7, a8, a9])
              have a11 := not_ready (i := 11) hr hz rfl (by simp [Region.binds, a0, a1, a2, a3, a4, a5, a6, a7, a8, a9, a10])
              have a12 := not_ready (i := 12) hr hz rfl (by simp [Region.binds, a0, a1, a2, a3, a4, a5, a6, a7, a8, a9, a10, a11])
              have a13 := not_ready (i := 13) hr hz rfl (by simp [Region.binds, a0, a1, a2, a3, a4, a5, a6, a7, a8, a9, a10, a11, a12])
              have a14 := not_ready (i := 14) hr hz rfl (by simp [Region.binds, a0, a1, a2, a3, a4, a5, a6, a7, a8, a9, a10, a11, a12, a13])
              have a15 := not_ready (i := 15) hr hz rfl (by simp [Region.binds, a0, a1, a2, a3, a4, a5, a6, a7, a8, a9, a10, a11, a12, a13, a14])
              have a16 := not_ready (i := 16) hr hz rfl (by simp [Region.binds, a0, a1, a2, a3, a4, a5, a6, a7, a8, a9, a10, a11, a12, a13, a14, a15])
              have a17 := not_ready (i := 17) hr hz rfl (by simp [Region.binds, a0, a1, a2, a3, a4, a5, a6, a7, a8, a9, a10, a11, a12, a13, a14, a15, a16])
              have a18 := not_ready (i := 18) hr hz rfl (by simp [Region.binds, a0, a1, a2, a3, a4, a5, a6, a7, a8, a9, a10, a11, a12, a13, a14, a15, a16, a17])
              have a19 := not_ready (i := 19) hr hz rfl (by simp [Region.binds, a0, a1, a2, a3, a4, a5, a6, a7, a8, a9, a10, a11, a12, a13, a14, a15, a16, a17, a18])
              have a20 := not_ready (i := 20) hr hz rfl (by simp [Region.binds, a0, a1, a2, a3, a4, a5, a6, a7, a8, a9, a10, a11, a12, a13, a14, a15, a16, a17, a18, a19])
              have a21 := not_ready (i := 21) hr hz rfl (by simp [Region.binds, a0, a1, a2, a3, a4, a5, a6, a7, a8, a9, a10, a11, a12, a13, a14, a15, a16, a17, a18, a19, a20])
              have a22 := not_ready (i := 22) hr hz rfl (by simp [Region.binds, a0, a1, a2, a3, a4, a5, a6, a7, a8, a9, a10, a11, a12, a13, a14, a15, a16, a17, a18, a19, a20, a21])
              have a23 := not_ready (i := 23) hr hz rfl (by simp [Region.binds, a0, a1, a2, a3, a4, a5, a6, a7, a8, a9, a10, a11, a12, a13, a14, a15, a16, a17, a18, a19, a20, a21, a22])
              have a24 := not_ready (i := 24) hr hz rfl (by simp [Region.binds, a0, a1, a2, a3, a4, a5, a6, a7, a8, a9, a10, a11, a12, a13, a14, a15, a16, a17, a18, a19, a20, a21, a22, a23])
              have a25 := not_ready (i := 25) hr hz rfl (by simp [Region.binds, a0, a1, a2, a3, a4, a5, a6, a7, a8, a9, a10, a11, a12, a13, a14, a15, a16, a17, a18, a19, a20, a21, a22, a23, a24])
              have a26 := not_ready (i := 26) hr hz rfl (by simp [Region.binds, a0, a1, a2, a3, a4, a5, a6, a7, a8, a9, a10, a11, a12, a13, a14, a15, a16, a17, a18, a19, a20, a21, a22, a23, a24, a25])
              have hY := hM0.get a25
              clear hr hz hv hZ a0 a1 a2 a3 a4 a5 a6 a7 a8 a9 a10 a11 a12 a13 a14 a15 a16 a17 a18 a19 a20 a21 a22 a23 a24 a25 a26 hM0 hP21 hE
              obtain ⟨gt, rfl, _, hvt, hb6⟩ := hY
              obtain ⟨w6, hw6⟩ : ∃ X : World, X = W' := ⟨_, rfl⟩
              rw [← hw6] at hvt hb6 ⊢
              clear hw6 hsc hsn r1 r2 hds hM hlO2 hr3
              have hb7 := HB5.out.trans (hb6.mono HB5.out.size)
              obtain ⟨T1, T2, T3, hsc, hsn⟩ := hvt.slot
              have hr3 := hvt.1
              obtain ⟨gr, kr, B1, B2, B3, _, r1, r2, hds, hM⟩ := matp_at0 (HG.out.to hb7) hi hqn
              rw [← HY.out] at hds hM
              have hlO2 := Nat.lt_of_lt_of_le hlO hb7.size
              obtain ⟨Ak, ck, hlV, p1, pn⟩ := matp_row (HV.out.to hb7) hqn
              obtain ⟨Ai, ci, _, s1, sn2⟩ := matp_row (HV.out.to hb7) hi
              have zF := ZF.out
              have zm := sz_mul2 (sz_neg zF) ZY.out
              obtain ⟨vk, hvk⟩ : ∃ f, f = v q := ⟨_, rfl⟩
              obtain ⟨vi, hvi⟩ : ∃ f, f = v i := ⟨_, rfl⟩
              rw [← hvk] at pn
              rw [← hvi] at sn2
              have ZM := Lib.hid (And.intro ((sz_neg zF).mono (show _ ≤ 137438953472 by omega)) (And.intro (ZY.out.mono (show _ ≤ 137438953472 by omega)) (zm.mono (show _ ≤ 137438953472 by omega))))
              have ZL : Hid (∀ j, j < n → sz 137438953472 (vk j) ∧ sz 137438953472 (vi j) ∧ sz 137438953472 ((F.neg.mul y).mul (vi j))) := Lib.hid fun j hj => by
                rw [hvk, hvi]
                have za := HT.out q j hqn hj
                have zb := HT.out i j hi hj
                exact ⟨za.mono (by omega), zb.mono (by omega), (sz_mul2 zm zb).mono (by omega)⟩
              have HFIN : Hid ((fun j => (vk j).add ((F.neg.mul y).mul (vi j))) = crV g v i (crK n g i)) := Lib.hid (by
                rw [← HP.out, hvk, hvi, HFF.out, HY.out, HX.out]
                rfl)
              have HB7 := Lib.hid hb7
              clear hb6 hb7 hvt zF zm hvk hvi
              go_upto_region 11 with fail
              refine wp_region_any (by kernel_rfl) ?_
              refine wpAny_inv (fun l a' w' => ∃ V2 : Nat → Value, ∃ xb5 xb13 xb18 xb19 : Value, a' = ⟨List.toArray (.slice (some ⟨gO, 0, none⟩) n cg :: .slice (some ⟨vO, 0, none⟩) n cv :: .int .i64 ↑i :: undef :: undef :: undef :: xb19 :: .int .i64 ↑q :: .pointer (some ⟨gs, 0, none⟩) :: .pointer (some ⟨gt, 0, none⟩) :: xa26 :: .slice (some ⟨gO, 0, none⟩) n cg :: .int .i64 ↑i :: .pointer (some ⟨gO, i, none⟩) :: .slice (some ⟨gr0, 0, none⟩) n kr0 :: .int .i64 ↑i :: .pointer (some { block := gr0, off := i * 5 }) :: .agg #[.bool (sn (na xx)), .slice Z1 (ln (ab (na xx))) (ln (ab (na xx))), .bool (sn (nb xx)), .slice Z2 (ln (ab (nb xx))) (ln (ab (nb xx))), .slice Z3 (ln (un xx)) (ln (un xx))] :: .bool false :: .int .i64 ↑i :: .int .i64 (↑i + 1) :: u21 :: u22 :: u23 :: u24 :: u25 :: u26 :: u27 :: u28 :: u29 :: u30 :: u31 :: u32 :: u33 :: u34 :: u35 :: u36 :: u37 :: u38 :: u39 :: u40 :: u41 :: u42 :: u43 :: u44 :: u45 :: u46 :: u47 :: u48 :: xa21 :: V 0 :: xa1 :: xa2 :: V 3 :: V 4 :: V 5 :: V 6 :: V 7 :: V 8 :: V 9 :: xa10 :: V 11 :: V 12 :: V 13 :: V 14 :: V 15 :: V 16 :: V 17 :: xa18 :: xa19 :: xa20 :: xa22 :: xa23 :: V2 0 :: V2 1 :: V2 2 :: V2 3 :: V2 4 :: xb5 :: V2 6 :: V2 7 :: V2 8 :: V2 9 :: V2 10 :: V2 11 :: V2 12 :: xb13 :: V2 14 :: V2 15 :: V2 16 :: V2 17 :: xb18 :: []), []⟩ ∧ OnFix l V2 (fun zz => List.getD [.slice (some ⟨vO, 0, none⟩) n cv, .int .i64 q, .pointer (some ⟨vO, q, none⟩), .slice Ak n ck, .agg #[.bool (sn (na F)), .slice T1 (ln (ab (na F))) (ln (ab (na F))), .bool (sn (nb F)), .slice T2 (ln (ab (nb F))) (ln (ab (nb F))), .slice T3 (ln (un F)) (ln (un F))], undef, .slice (some ⟨gO, 0, none⟩) n cg, .int .i64 i, .pointer (some ⟨gO, i, none⟩), .slice (some ⟨gr, 0, none⟩) n kr, .int .i64 q, .pointer (some ⟨gr, q * 5, none⟩), .agg #[.bool (sn (na y)), .slice B1 (ln (ab (na y))) (ln (ab (na y))), .bool (sn (nb y)), .slice B2 (ln (ab (nb y))) (ln (ab (nb y))), .slice B3 (ln (un y)) (ln (un y))], undef, .slice (some ⟨vO, 0, none⟩) n cv, .int .i64 i, .pointer (some ⟨vO, i, none⟩), .slice Ai n ci, undef, undef] zz undef) [0, 1, 2, 3, 4, 6, 7, 8, 9, 10, 11, 12, 14, 15, 16, 17] ∧ (Below w6.heap.size w6 w' ∧ On l 5 (SlotNum w' xb5 (F.neg)) ∧ On l 13 (SlotNum w' xb13 (F.neg.mul y)) ∧ On l 18 (ListP w6 w' n (fun j => (vk j).add ((F.neg.mul y).mul (vi j))) xb18)) ∧ Off l 19 (xb19 = u6) ∧ On l 19 (xb19 = xb18) ∧ Edg l [(19, 18)] ∧ l.size = 20) ?_ ?_ _ _ _ _ (by decide) ?_
              · intro l a' W' i hi hI
                obtain ⟨V2, xb5, xb13, xb18, xb19, rfl, hv, hZ, hA19, hB19, hE, hz⟩ := hI
                obtain ⟨hlt, hoff, hpre⟩ := ready_pre hi
                have hc : i ∈ [0, 1, 2, 3, 4, 5, 6, 7, 8, 9, 10, 11, 12, 13, 14, 15, 16, 17, 18, 19] := (by decide : ∀ i, i < 20 → i ∈ [0, 1, 2, 3, 4, 5, 6, 7, 8, 9, 10, 11, 12, 13, 14, 15, 16, 17, 18, 19]) i hlt
                simp only [List.mem_cons, List.not_mem_nil, or_false] at hc
                clear hi hlt
                rcases hc with rfl | rfl | rfl | rfl | rfl | rfl | rfl | rfl | rfl | rfl | rfl | rfl | rfl | rfl | rfl | rfl | rfl | rfl | rfl | rfl <;> (have hp := hpre _ rfl; simp [Region.binds] at hp; clear hpre)
                · skip
                  have HV := Lib.hid hv
                  clear hv
                  refine wpOp_go rfl rfl (fun K hK => ?_)
                  go_simp
                  refine hK _ _ ?_
                  exact ⟨_, _, _, _, _, rfl, HV.out.new (x := .slice (some ⟨vO, 0, none⟩) n cv) rfl, (fun ⟨hb0, y5, y13, y18⟩ => ⟨hb0, y5.keep (by decide), y13.keep (by decide), y18.keep (by decide)⟩) hZ, hA19.keep, hB19.keep (j := 0) (by decide), hE.mono (by decide), by simp [hz]⟩
                · skip
                  have HV := Lib.hid hv
                  clear hv
                  refine wpOp_go rfl rfl (fun K hK => ?_)
                  go_simp
                  refine hK _ _ ?_
                  exact ⟨_, _, _, _, _, rfl, HV.out.new (x := .int .i64 q) rfl, (fun ⟨hb0, y5, y13, y18⟩ => ⟨hb0, y5.keep (by decide), y13.keep (by decide), y18.keep (by decide)⟩) hZ, hA19.keep, hB19.keep (j := 1) (by decide), hE.mono (by decide), by simp [hz]⟩
                · skip
                  have e0 : V2 0 = .slice (some ⟨vO, 0, none⟩) n cv := hv.get 0 (by decide) (by simp [hp])
                  have e1 : V2 1 = .int .i64 q := hv.get 1 (by decide) (by simp [hp])
                  have HV := Lib.hid ((hv.fixE e0 rfl).fixE e1 rfl)
                  clear hv
                  simp only [e0, e1]
                  refine wpOp_go rfl rfl (fun K hK => ?_)
                  go_simp
                  refine hK _ _ ?_
                  exact ⟨_, _, _, _, _, rfl, HV.out.new (x := .pointer (some ⟨vO, q, none⟩)) rfl, (fun ⟨hb0, y5, y13, y18⟩ => ⟨hb0, y5.keep (by decide), y13.keep (by decide), y18.keep (by decide)⟩) hZ, hA19.keep, hB19.keep (j := 2) (by decide), hE.mono (by decide), by simp [hz]⟩
                · skip
                  have e2 : V2 2 = .pointer (some ⟨vO, q, none⟩) := hv.get 2 (by decide) (by simp [hp])
                  have HV := Lib.hid (hv.fixE e2 rfl)
                  clear hv
                  simp only [e2]
                  have hY := hZ
                  have z := keepc hY.1 p1 hlV
                  refine wpOp_go rfl rfl (fun K hK => ?_)
                  go_simp
                  refine hK _ _ ?_
                  exact ⟨_, _, _, _, _, rfl, HV.out.new (x := .slice Ak n ck) rfl, (fun ⟨hb0, y5, y13, y18⟩ => ⟨hb0, y5.keep (by decide), y13.keep (by decide), y18.keep (by decide)⟩) hZ, hA19.keep, hB19.keep (j := 3) (by decide), hE.mono (by decide), by simp [hz]⟩
                · skip
                  have HV := Lib.hid hv
                  clear hv
                  have hY := hZ
                  obtain ⟨z0, z1, z2, z3, z4⟩ := hsc
                  have y0 := keepc hY.1 z0 hr3; have y1 := keepc hY.1 z1 hr3; have y2 := keepc hY.1 z2 hr3; have y3 := keepc hY.1 z3 hr3; have y4 := keepc hY.1 z4 hr3
                  refine wpOp_go rfl rfl (fun K hK => ?_)
                  go_simp
                  refine hK _ _ ?_
                  exact ⟨_, _, _, _, _, rfl, HV.out.new (x := .agg #[.bool (sn (na F)), .slice T1 (ln (ab (na F))) (ln (ab (na F))), .bool (sn (nb F)), .slice T2 (ln (ab (nb F))) (ln (ab (nb F))), .slice T3 (ln (un F)) (ln (un F))]) rfl, (fun ⟨hb0, y5, y13, y18⟩ => ⟨hb0, y5.keep (by decide), y13.keep (by decide), y18.keep (by decide)⟩) hZ, hA19.keep, hB19.keep (j := 4) (by decide), hE.mono (by decide), by simp [hz]⟩
                · skip
                  have e4 : V2 4 = .agg #[.bool (sn (na F)), .slice T1 (ln (ab (na F))) (ln (ab (na F))), .bool (sn (nb F)), .slice T2 (ln (ab (nb F))) (ln (ab (nb F))), .slice T3 (ln (un F)) (ln (un F))] := hv.get 4 (by decide) (by simp [hp])
                  have HV := Lib.hid (hv.fixE e4 rfl)
                  clear hv
                  simp only [e4]
                  have hY := hZ
                  refine wpOp_go rfl rfl (fun K hK => ?_)
                  go_wp2_with (first | (go_at_call 14; refine (neg_any F T1 T2 T3 _ (hsn.to hY.1)).mono ?_; rintro e w6 ⟨E1, E2, E3, rfl, hNN, hb⟩))
                  try refine hK _ _ ?_
                  exact ⟨_, _, _, _, _, rfl, HV.out.other (by decide), ⟨hY.1.trans (hb.mono hY.1.size), On.new (⟨E1, E2, E3, rfl, hNN⟩), ((hY.2.2.1).keep (by decide)).map (fun h => h.to hb), ((hY.2.2.2).keep (by decide)).map (fun h => h.to hb)⟩, hA19.keep, hB19.keep (j := 5) (by decide), hE.mono (by decide), by simp [hz]⟩
                · skip
                  have HV := Lib.hid hv
                  clear hv
                  refine wpOp_go rfl rfl (fun K hK => ?_)
                  go_simp
                  refine hK _ _ ?_
                  exact ⟨_, _, _, _, _, rfl, HV.out.new (x := .slice (some ⟨gO, 0, none⟩) n cg) rfl, (fun ⟨hb0, y5, y13, y18⟩ => ⟨hb0, y5.keep (by decide), y13.keep (by decide), y18.keep (by decide)⟩) hZ, hA19.keep, hB19.keep (j := 6) (by decide), hE.mono (by decide), by simp [hz]⟩
                · skip
                  have HV := Lib.hid hv
                  clear hv
                  refine wpOp_go rfl rfl (fun K hK => ?_)
                  go_simp
                  refine hK _ _ ?_
                  exact ⟨_, _, _, _, _, rfl, HV.out.new (x := .int .i64 i) rfl, (fun ⟨hb0, y5, y13, y18⟩ => ⟨hb0, y5.keep (by decide), y13.keep (by decide), y18.keep (by decide)⟩) hZ, hA19.keep, hB19.keep (j := 7) (by decide), hE.mono (by decide), by simp [hz]⟩
                · skip
                  have e6 : V2 6 = .slice (some ⟨gO, 0, none⟩) n cg := hv.get 6 (by decide) (by simp [hp])
                  have e7 : V2 7 = .int .i64 i := hv.get 7 (by decide) (by simp [hp])
                  have HV := Lib.hid ((hv.fixE e6 rfl).fixE e7 rfl)
                  clear hv
                  simp only [e6, e7]
                  refine wpOp_go rfl rfl (fun K hK => ?_)
                  go_simp
                  refine hK _ _ ?_
                  exact ⟨_, _, _, _, _, rfl, HV.out.new (x := .pointer (some ⟨gO, i, none⟩)) rfl, (fun ⟨hb0, y5, y13, y18⟩ => ⟨hb0, y5.keep (by decide), y13.keep (by decide), y18.keep (by decide)⟩) hZ, hA19.keep, hB19.keep (j := 8) (by decide), hE.mono (by decide), by simp [hz]⟩
                · skip
                  have e8 : V2 8 = .pointer (some ⟨gO, i, none⟩) := hv.get 8 (by decide) (by simp [hp])
                  have HV := Lib.hid (hv.fixE e8 rfl)
                  clear hv
                  simp only [e8]
                  have hY := hZ
                  have z := keepc hY.1 r1 hlO2
                  refine wpOp_go rfl rfl (fun K hK => ?_)
                  go_simp
                  refine hK _ _ ?_
                  exact ⟨_, _, _, _, _, rfl, HV.out.new (x := .slice (some ⟨gr, 0, none⟩) n kr) rfl, (fun ⟨hb0, y5, y13, y18⟩ => ⟨hb0, y5.keep (by decide), y13.keep (by decide), y18.keep (by decide)⟩) hZ, hA19.keep, hB19.keep (j := 9) (by decide), hE.mono (by decide), by simp [hz]⟩
                · skip
                  have HV := Lib.hid hv
                  clear hv
                  refine wpOp_go rfl rfl (fun K hK => ?_)
                  go_simp
                  refine hK _ _ ?_
                  exact ⟨_, _, _, _, _, rfl, HV.out.new (x := .int .i64 q) rfl, (fun ⟨hb0, y5, y13, y18⟩ => ⟨hb0, y5.keep (by decide), y13.keep (by decide), y18.keep (by decide)⟩) hZ, hA19.keep, hB19.keep (j := 10) (by decide), hE.mono (by decide), by simp [hz]⟩
                · skip
                  have e9 : V2 9 = .slice (some ⟨gr, 0, none⟩) n kr := hv.get 9 (by decide) (by simp [hp])
                  have e10 : V2 10 = .int .i64 q := hv.get 10 (by decide) (by simp [hp])
                  have HV := Lib.hid ((hv.fixE e9 rfl).fixE e10 rfl)
                  clear hv
                  simp only [e9, e10]
                  refine wpOp_go rfl rfl (fun K hK => ?_)
                  go_simp
                  refine hK _ _ ?_
                  exact ⟨_, _, _, _, _, rfl, HV.out.new (x := .pointer (some ⟨gr, q * 5, none⟩)) rfl, (fun ⟨hb0, y5, y13, y18⟩ => ⟨hb0, y5.keep (by decide), y13.keep (by decide), y18.keep (by decide)⟩) hZ, hA19.keep, hB19.keep (j := 11) (by decide), hE.mono (by decide), by simp [hz]⟩
                · skip
                  have e11 : V2 11 = .pointer (some ⟨gr, q * 5, none⟩) := hv.get 11 (by decide) (by simp [hp])
                  have HV := Lib.hid (hv.fixE e11 rfl)
                  clear hv
                  simp only [e11]
                  have hY := hZ
                  obtain ⟨z0, z1, z2, z3, z4⟩ := hds
                  have y0 := keepc hY.1 z0 r2; have y1 := keepc hY.1 z1 r2; have y2 := keepc hY.1 z2 r2; have y3 := keepc hY.1 z3 r2; have y4 := keepc hY.1 z4 r2
                  refine wpOp_go rfl rfl (fun K hK => ?_)
                  go_simp
                  refine hK _ _ ?_
                  exact ⟨_, _, _, _, _, rfl, HV.out.new (x := .agg #[.bool (sn (na y)), .slice B1 (ln (ab (na y))) (ln (ab (na y))), .bool (sn (nb y)), .slice B2 (ln (ab (nb y))) (ln (ab (nb y))), .slice B3 (ln (un y)) (ln (un y))]) rfl, (fun ⟨hb0, y5, y13, y18⟩ => ⟨hb0, y5.keep (by decide), y13.keep (by decide), y18.keep (by decide)⟩) hZ, hA19.keep, hB19.keep (j := 12) (by decide), hE.mono (by decide), by simp [hz]⟩
                · skip
                  have e12 : V2 12 = .agg #[.bool (sn (na y)), .slice B1 (ln (ab (na y))) (ln (ab (na y))), .bool (sn (nb y)), .slice B2 (ln (ab (nb y))) (ln (ab (nb y))), .slice B3 (ln (un y)) (ln (un y))] := hv.get 12 (by decide) (by simp [hp])
                  have HV := Lib.hid (hv.fixE e12 rfl)
                  clear hv
                  simp only [e12]
                  have hY := hZ
                  obtain ⟨G1, G2, G3, eG, hMM⟩ := hY.2.1.get (by simp [hp])
                  subst eG
                  refine wpOp_go rfl rfl (fun K hK => ?_)
                  go_wp2_with (first | (go_at_call 10; refine (mul_num F.neg y G1 G2 G3 B1 B2 B3 _ hMM (hM.to hY.1) ZM.out.1 ZM.out.2.1).mono ?_; rintro e w6 ⟨E1, E2, E3, rfl, hNN, hb⟩))
                  try refine hK _ _ ?_
                  exact ⟨_, _, _, _, _, rfl, HV.out.other (by decide), ⟨hY.1.trans (hb.mono hY.1.size), ((hY.2.1).keep (by decide)).map (fun h => h.to hb), On.new (⟨E1, E2, E3, rfl, hNN⟩), ((hY.2.2.2).keep (by decide)).map (fun h => h.to hb)⟩, hA19.keep, hB19.keep (j := 13) (by decide), hE.mono (by decide), by simp [hz]⟩
                · skip
                  have HV := Lib.hid hv
                  clear hv
                  refine wpOp_go rfl rfl (fun K hK => ?_)
                  go_simp
                  refine hK _ _ ?_
                  exact ⟨_, _, _, _, _, rfl, HV.out.new (x := .slice (some ⟨vO, 0, none⟩) n cv) rfl, (fun ⟨hb0, y5, y13, y18⟩ => ⟨hb0, y5.keep (by decide), y13.keep (by decide), y18.keep (by decide)⟩) hZ, hA19.keep, hB19.keep (j := 14) (by decide), hE.mono (by decide), by simp [hz]⟩
                · skip
                  have HV := Lib.hid hv
                  clear hv
                  refine wpOp_go rfl rfl (fun K hK => ?_)
                  go_simp
                  refine hK _ _ ?_
                  exact ⟨_, _, _, _, _, rfl, HV.out.new (x := .int .i64 i) rfl, (fun ⟨hb0, y5, y13, y18⟩ => ⟨hb0, y5.keep (by decide), y13.keep (by decide), y18.keep (by decide)⟩) hZ, hA19.keep, hB19.keep (j := 15) (by decide), hE.mono (by decide), by simp [hz]⟩
                · skip
                  have e14 : V2 14 = .slice (some ⟨vO, 0, none⟩) n cv := hv.get 14 (by decide) (by simp [hp])
                  have e15 : V2 15 = .int .i64 i := hv.get 15 (by decide) (by simp [hp])
                  have HV := Lib.hid ((hv.fixE e14 rfl).fixE e15 rfl)
                  clear hv
                  simp only [e14, e15]
                  refine wpOp_go rfl rfl (fun K hK => ?_)
                  go_simp
                  refine hK _ _ ?_
                  exact ⟨_, _, _, _, _, rfl, HV.out.new (x := .pointer (some ⟨vO, i, none⟩)) rfl, (fun ⟨hb0, y5, y13, y18⟩ => ⟨hb0, y5.keep (by decide), y13.keep (by decide), y18.keep (by decide)⟩) hZ, hA19.keep, hB19.keep (j := 16) (by decide), hE.mono (by decide), by simp [hz]⟩
                · skip
                  have e16 : V2 16 = .pointer (some ⟨vO, i, none⟩) := hv.get 16 (by decide) (by simp [hp])
                  have HV := Lib.hid (hv.fixE e16 rfl)
                  clear hv
                  simp only [e16]
                  have hY := hZ
                  have z := keepc hY.1 s1 hlV
                  refine wpOp_go rfl rfl (fun K hK => ?_)
                  go_simp
                  refine hK _ _ ?_
                  exact ⟨_, _, _, _, _, rfl, HV.out.new (x := .slice Ai n ci) rfl, (fun ⟨hb0, y5, y13, y18⟩ => ⟨hb0, y5.keep (by decide), y13.keep (by decide), y18.keep (by decide)⟩) hZ, hA19.keep, hB19.keep (j := 17) (by decide), hE.mono (by decide), by simp [hz]⟩
                · skip
                  have e3 : V2 3 = .slice Ak n ck := hv.get 3 (by decide) (by simp [hp])
                  have e17 : V2 17 = .slice Ai n ci := hv.get 17 (by decide) (by simp [hp])
                  have HV := Lib.hid ((hv.fixE e3 rfl).fixE e17 rfl)
                  clear hv
                  simp only [e3, e17]
                  have hY := hZ
                  obtain ⟨G1, G2, G3, eG, hMM⟩ := hY.2.2.1.get (by simp [hp])
                  subst eG
                  refine wpOp_go rfl rfl (fun K hK => ?_)
                  go_wp2_with (first | (go_at_call 52; refine (mixed_any _ Ak Ai G1 G2 G3 n ck ci vk vi (F.neg.mul y) (pn.to hY.1) (sn2.to hY.1) hMM hn ZL.out ZM.out.2.2).mono ?_; rintro e w8 ⟨uu, rfl, hL⟩; have hb := hL.1))
                  try refine hK _ _ ?_
                  exact ⟨_, _, _, _, _, rfl, HV.out.other (by decide), ⟨hY.1.trans (hb.mono hY.1.size), ((hY.2.1).keep (by decide)).map (fun h => h.to hb), ((hY.2.2.1).keep (by decide)).map (fun h => h.to hb), On.new (hL.le hY.1)⟩, hA19.keep, fun h => absurd (hE.get 19 18 (by decide) (on_ne h (by decide))) (off hoff), hE.mono (by decide), by simp [hz]⟩
                · skip
                  have HV := Lib.hid hv
                  clear hv
                  refine wpOp_go rfl rfl (fun K hK => ?_)
                  go_simp
                  refine hK _ _ ?_
                  exact ⟨_, _, _, _, _, rfl, HV.out.other (by decide), (fun ⟨hb0, y5, y13, y18⟩ => ⟨hb0, y5.keep (by decide), y13.keep (by decide), y18.keep (by decide)⟩) hZ, Off.done (by omega), On.new rfl, hE.step (by simp [hp]), by simp [hz]⟩
              · intro l a' W' hr hI
                obtain ⟨V2, xb5, xb13, xb18, xb19, rfl, hv, hZ, hA19, hB19, hE, hz⟩ := hI
                have a0 := not_ready (i := 0) hr hz rfl (by simp [Region.binds])
                have a1 := not_ready (i := 1) hr hz rfl (by simp [Region.binds, a0])
                have a2 := not_ready (i := 2) hr hz rfl (by simp [Region.binds, a0, a1])
                have a3 := not_ready (i := 3) hr hz rfl (by simp [Region.binds, a0, a1, a2])
                have a4 := not_ready (i := 4) hr hz rfl (by simp [Region.binds, a0, a1, a2, a3])
                have a5 := not_ready (i := 5) hr hz rfl (by simp [Region.binds, a0, a1, a2, a3, a4])
                have a6 := not_ready (i := 6) hr hz rfl (by simp [Region.binds, a0, a1, a2, a3, a4, a5])
                have a7 := not_ready (i := 7) hr hz rfl (by simp [Region.binds, a0, a1, a2, a3, a4, a5, a6])
                have a8 := not_ready (i := 8) hr hz rfl (by simp [Region.binds, a0, a1, a2, a3, a4, a5, a6, a7])
                have a9 := not_ready (i := 9) hr hz rfl (by simp [Region.binds, a0, a1, a2, a3, a4, a5, a6, a7, a8])
                have a10 := not_ready (i := 10) hr hz rfl (by simp [Region.binds, a0, a1, a2, a3, a4, a5, a6, a7, a8, a9])
                have a11 := not_ready (i := 11) hr hz rfl (by simp [Region.binds, a0, a1, a2, a3, a4, a5, a6, a7, a8, a9, a10])
                have a12 := not_ready (i := 12) hr hz rfl (by simp [Region.binds, a0, a1, a2, a3, a4, a5, a6, a7, a8, a9, a10, a11])
                have a13 := not_ready (i := 13) hr hz rfl (by simp [Region.binds, a0, a1, a2, a3, a4, a5, a6, a7, a8, a9, a10, a11, a12])
                have a14 := not_ready (i := 14) hr hz rfl (by simp [Region.binds, a0, a1, a2, a3, a4, a5, a6, a7, a8, a9, a10, a11, a12, a13])
                have a15 := not_ready (i := 15) hr hz rfl (by simp [Region.binds, a0, a1, a2, a3, a4, a5, a6, a7, a8, a9, a10, a11, a12, a13, a14])
                have a16 := not_ready (i := 16) hr hz rfl (by simp [Region.binds, a0, a1, a2, a3, a4, a5, a6, a7, a8, a9, a10, a11, a12, a13, a14, a15])
                have a17 := not_ready (i := 17) hr hz rfl (by simp [Region.binds, a0, a1, a2, a3, a4, a5, a6, a7, a8, a9, a10, a11, a12, a13, a14, a15, a16])
                have a18 := not_ready (i := 18) hr hz rfl (by simp [Region.binds, a0, a1, a2, a3, a4, a5, a6, a7, a8, a9, a10, a11, a12, a13, a14, a15, a16, a17])
                have a19 := not_ready (i := 19) hr hz rfl (by simp [Region.binds, a0, a1, a2, a3, a4, a5, a6, a7, a8, a9, a10, a11, a12, a13, a14, a15, a16, a17, a18])
                have hY : Below w6.heap.size w6 W' ∧ (SlotNum W' xb5 (F.neg)) ∧ (SlotNum W' xb13 (F.neg.mul y)) ∧ (ListP w6 W' n (fun j => (vk j).add ((F.neg.mul y).mul (vi j))) xb18) := ⟨hZ.1, hZ.2.1.get a5, hZ.2.2.1.get a13, hZ.2.2.2.get a18⟩
                have hX19 := hB19.get a19
                clear hr hz hv hZ a0 a1 a2 a3 a4 a5 a6 a7 a8 a9 a10 a11 a12 a13 a14 a15 a16 a17 a18 a19 hA19 hB19 hE
                subst hX19
                go_wp2_with fail
                exact bodyPost_ret (v := xb19) (by simp [results, Try.results51, go_sem]) rfl (.inr ⟨HZ0.out, by rw [← HP.out]; omega, xb19, rfl, by rw [← HFIN.out]; exact hY.2.2.2.le HB7.out⟩)
              · exact ⟨fun zz => List.getD [u73, u74, u75, u76, u77, u78, u79, u80, u81, u82, u83, u84, u85, u86, u87, u88, u89, u90, u91, u6] zz undef, _, _, _, _, rfl, OnFix.start, ⟨((Below.refl _ _).drew), fun h => absurd h (by decide), fun h => absurd h (by decide), fun h => absurd h (by decide)⟩, Off.new rfl, fun h => absurd h (by decide), Edg.start, by simp⟩
            · exact ⟨fun zz => List.getD [u50, u51, u52, u53, u54, u55, u56, u57, u58, u59, u60, u61, u62, u63, u64, u65, u66, u67, u68, u69, u70, u49, u71, u72, u9, undef, u10] zz undef, _, _, _, _, _, _, _, _, _, _, _, rfl, OnFix.start, Off.new ⟨((Below.refl _ _).drew), fun h => absurd h (by decide), fun h => absurd h (by decide), fun h => absurd h (by decide), fun h => absurd h (by decide), fun h => absurd h (by decide), fun h => absurd h (by decide), fun h => absurd h (by decide), fun h => absurd h (by decide), fun h => absurd h (by decide)⟩, fun h => absurd h (by decide), fun h => absurd h (by decide), Edg.start, by simp⟩
      · have hqn2 : q = n := by omega
        subst hqn2
        have t0 : decide ((q : Int) < (q : Int)) = false := by rw [decide_eq_false_iff_not]; omega
        have HNO := Lib.hid (show ¬ (g i i = Cx.zero ∧ crK q g i < q) from fun h => by have := HP.out; omega)
        go_wp2_with fail
        exact bodyPost_ret (v := .slice none 0 0) (by simp [results, Try.results51, go_sem]) rfl (.inl ⟨HNO.out, rfl, hb⟩)
  · have hcl := la14 hz
    have HNO := Lib.hid (show ¬ (g i i = Cx.zero ∧ crK n g i < n) from fun h => hz (HXX.out.trans h.1))
    clear hz
    go_wp2_with fail
    refine (clear_to xx Z1 Z2 Z3 _ hN zxx hcl).mono ?_
    rintro e w1 ⟨rfl, hb1⟩
    go_wp2_with fail
    exact bodyPost_ret (v := .slice none 0 0) (by simp [results, Try.results51, go_sem]) rfl (.inl ⟨HNO.out, rfl, hb1⟩)
end Go.Proofs.Ytdpjknjlhchmcaa
