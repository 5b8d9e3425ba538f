/- 'eliminate' on two rows of two numbers, where no rows are exchanged. -/
import Derived.Test.YtgpmlhpgdalheaaGreatCopy
import Derived.Test.YtgpmlhpgdalheaaGreatLawB
namespace Go.Proofs.YtgpmlhpgdalheaaGreat
open Go.RowKit Pl
set_option linter.unusedVariables false
set_option linter.unusedSimpArgs false

/-- The second number of a row. -/
def At5 (w : World) (g : Nat) (q : Cx) (A1 A2 A3 : Option Addr) : Prop := g < w.heap.size ∧ (w.cell? ⟨g, 5, none⟩ = some (.bool (sn (na q))) ∧ w.cell? ⟨g, 6, none⟩ = some (.slice A1 (ln (ab (na q))) (ln (ab (na q)))) ∧ w.cell? ⟨g, 7, none⟩ = some (.bool (sn (nb q))) ∧ w.cell? ⟨g, 8, none⟩ = some (.slice A2 (ln (ab (nb q))) (ln (ab (nb q)))) ∧ w.cell? ⟨g, 9, none⟩ = some (.slice A3 (ln (un q)) (ln (un q)))) ∧ Num3 w A1 A2 A3 q
theorem At5.to {w w' : World} {g : Nat} {q : Cx} {A1 A2 A3 : Option Addr} (h : At5 w g q A1 A2 A3) (hb : Below w.heap.size w w') : At5 w' g q A1 A2 A3 := by
  obtain ⟨h2, ⟨c0, c1, c2, c3, c4⟩, h3⟩ := h
  exact ⟨Nat.lt_of_lt_of_le h2 hb.size, ⟨keepc hb c0 h2, keepc hb c1 h2, keepc hb c2 h2, keepc hb c3 h2, keepc hb c4 h2⟩, h3.to hb⟩
/-- A Num is stored as the second number of the row p. -/
def set55 (w : World) (p : Nat) (q : Cx) (A1 A2 A3 : Option Addr) : World :=
  ((((w.setCell ⟨p, 5, none⟩ (.bool (sn (na q)))).setCell ⟨p, 6, none⟩ (.slice A1 (ln (ab (na q))) (ln (ab (na q))))).setCell ⟨p, 7, none⟩ (.bool (sn (nb q)))).setCell ⟨p, 8, none⟩ (.slice A2 (ln (ab (nb q))) (ln (ab (nb q))))).setCell ⟨p, 9, none⟩ (.slice A3 (ln (un q)) (ln (un q)))
theorem set55_size (w : World) (p : Nat) (q : Cx) (A1 A2 A3 : Option Addr) : (set55 w p q A1 A2 A3).heap.size = w.heap.size := by simp [set55, World.setCell]
theorem set55_cell {w : World} {p b i : Nat} {q : Cx} {A1 A2 A3 : Option Addr} {v : Value} (h : w.cell? ⟨b, i, none⟩ = some v) (h1 : b ≠ p ∨ i < 5) : (set55 w p q A1 A2 A3).cell? ⟨b, i, none⟩ = some v := keepo (keepo (keepo (keepo (keepo h (by omega)) (by omega)) (by omega)) (by omega)) (by omega)
theorem set55_below {w W : World} {B p : Nat} {q : Cx} {A1 A2 A3 : Option Addr} (h : Below B w W) (hp : B ≤ p) : Below B w (set55 W p q A1 A2 A3) :=
  ((((h.setCell (by exact hp) _).setCell (by exact hp) _).setCell (by exact hp) _).setCell (by exact hp) _).setCell (by exact hp) _
theorem set55_nat {w : World} {p n : Nat} {q : Cx} {A1 A2 A3 A : Option Addr} {c : Bool} (h : Nat32 w A n) (u : w.cell? ⟨p, 0, none⟩ = some (.bool c)) : Nat32 (set55 w p q A1 A2 A3) A n := by
  have nb : ∀ (b : Bool) k m, Value.bool b ≠ .int k m := by intro b k m e; cases e
  have a1 := keepo (R := p) (j := 5) (u := .bool (sn (na q))) u (.inr (by omega))
  have a2 := keepo (R := p) (j := 6) (u := .slice A1 (ln (ab (na q))) (ln (ab (na q)))) a1 (.inr (by omega))
  have a3 := keepo (R := p) (j := 7) (u := .bool (sn (Pl.nb q))) a2 (.inr (by omega))
  have a4 := keepo (R := p) (j := 8) (u := .slice A2 (ln (ab (Pl.nb q))) (ln (ab (Pl.nb q)))) a3 (.inr (by omega))
  exact ((((h.setBox u (nb _)).setBox a1 (nb _)).setBox a2 (nb _)).setBox a3 (nb _)).setBox a4 (nb _)
theorem set55_num3 {w : World} {p : Nat} {q r : Cx} {A1 A2 A3 B1 B2 B3 : Option Addr} {c : Bool} (h : Num3 w B1 B2 B3 r) (u : w.cell? ⟨p, 0, none⟩ = some (.bool c)) : Num3 (set55 w p q A1 A2 A3) B1 B2 B3 r := ⟨set55_nat h.1 u, set55_nat h.2.1 u, set55_nat h.2.2 u⟩
theorem set55_var {w : World} {p g : Nat} {q r : Cx} {A1 A2 A3 B1 B2 B3 : Option Addr} {c : Bool} (h : VarAt w g r B1 B2 B3) (u : w.cell? ⟨p, 0, none⟩ = some (.bool c)) : VarAt (set55 w p q A1 A2 A3) g r B1 B2 B3 := by
  obtain ⟨h2, ⟨c0, c1, c2, c3, c4⟩, h3⟩ := h
  exact ⟨by rw [set55_size]; exact h2, ⟨set55_cell c0 (by omega), set55_cell c1 (by omega), set55_cell c2 (by omega), set55_cell c3 (by omega), set55_cell c4 (by omega)⟩, set55_num3 h3 u⟩
theorem set55_at5 {w : World} {p : Nat} {q : Cx} {A1 A2 A3 : Option Addr} {c : Bool} {v0 v1 v2 v3 v4 : Value} (hp : p < w.heap.size) (hq : Num3 w A1 A2 A3 q) (u : w.cell? ⟨p, 0, none⟩ = some (.bool c)) (u0 : w.cell? ⟨p, 5, none⟩ = some v0) (u1 : w.cell? ⟨p, 6, none⟩ = some v1) (u2 : w.cell? ⟨p, 7, none⟩ = some v2) (u3 : w.cell? ⟨p, 8, none⟩ = some v3) (u4 : w.cell? ⟨p, 9, none⟩ = some v4) : At5 (set55 w p q A1 A2 A3) p q A1 A2 A3 := by
  refine ⟨by rw [set55_size]; exact hp, ?_, set55_num3 hq u⟩
  unfold set55
  have o0 := cell_self (u := .bool (sn (na q))) u0
  refine ⟨?_, ?_, ?_, ?_, ?_⟩
  · exact keepo (keepo (keepo (keepo o0 (by omega)) (by omega)) (by omega)) (by omega)
  · exact keepo (keepo (keepo (cell_self (keepo u1 (by omega))) (by omega)) (by omega)) (by omega)
  · exact keepo (keepo (cell_self (keepo (keepo u2 (by omega)) (by omega))) (by omega)) (by omega)
  · exact keepo (cell_self (keepo (keepo (keepo u3 (by omega)) (by omega)) (by omega))) (by omega)
  · exact cell_self (keepo (keepo (keepo (keepo u4 (by omega)) (by omega)) (by omega)) (by omega))
/-- An operation is taken first; its slot is named. -/
theorem takeH {P : Program} {md : Region.Mode} {ops : Array Oper} {Q : Exit → Act → World → Prop} {S : World → Prop} {i d : Nat} {oi : Oper} {v : Value} {fuel : Nat} {listed : Array Bool} {a : Act} {w : World} (hi : ops[i]? = some oi) (hd : oi.dst = some d)
    (hs : Region.noSelect ops = true) (hf : Region.free md ops listed i = true) (hr : (Region.ready md ops listed).contains i = true)
    (hQ : ∀ c a w, Q (.panic c) (a.put oi.dst v) w → Q (.panic c) a w) (hy : YieldsIf P ops S oi v a) (hS : S w)
    (h : wpAnyH P md ops Q S fuel (listed.setIfInBounds i true) (a.put (some d) v) w) : wpAnyH P md ops Q S (fuel + 1) listed a w := by
  rw [← hd] at h; exact wpAnyH_take hi hs hf hr hQ hy hS h
theorem bstep {B : Nat} {w W w1 : World} (h : Hid (Below B w W)) (hB : Hid (B ≤ w.heap.size)) (hb : Below W.heap.size W w1) : Below B w w1 := h.out.trans (hb.mono (Nat.le_trans hB.out h.out.size))

set_option maxRecDepth 100000 in
set_option maxHeartbeats 8000000 in
theorem elim2 (w : World) (B p r0 r1 a0 a1 : Nat) (q00 q01 q10 q11 : Cx) (A1 A2 A3 B1 B2 B3 C1 C2 C3 E1 E2 E3 : Option Addr) (c0 : w.cell? ⟨p, 0, none⟩ = some (.slice (some ⟨r0, 0, none⟩) 2 a0)) (c1 : w.cell? ⟨p, 1, none⟩ = some (.slice (some ⟨r1, 0, none⟩) 2 a1)) (V00 : VarAt w r0 q00 A1 A2 A3) (V01 : At5 w r0 q01 B1 B2 B3) (V10 : VarAt w r1 q10 C1 C2 C3) (V11 : At5 w r1 q11 E1 E2 E3) (f5 : w.frozen? ⟨r1, 5, none⟩ = false) (f6 : w.frozen? ⟨r1, 6, none⟩ = false) (f7 : w.frozen? ⟨r1, 7, none⟩ = false) (f8 : w.frozen? ⟨r1, 8, none⟩ = false) (f9 : w.frozen? ⟨r1, 9, none⟩ = false) (hp : p < w.heap.size) (hB : B ≤ w.heap.size) (hBr : B ≤ r1) (n01 : r0 ≠ r1) (np : p ≠ r1) (z00 : sz 2 q00) (z01 : sz 2 q01) (z10 : sz 2 q10) (z11 : sz 2 q11) (h00 : q00 ≠ Cx.zero) (h11 : q11.sub ((q10.div q00).mul q01) ≠ Cx.zero) :
    Calls Tryz.prog 153 #[.slice (some ⟨p, 0, none⟩) 2 2] w fun e w' => e = .returned (.tuple #[.int .i64 0, .int .i64 (-1)]) ∧ w'.cell? ⟨p, 0, none⟩ = some (.slice (some ⟨r0, 0, none⟩) 2 a0) ∧ w'.cell? ⟨p, 1, none⟩ = some (.slice (some ⟨r1, 0, none⟩) 2 a1) ∧ VarAt w' r0 q00 A1 A2 A3 ∧ (∃ U1 U2 U3, At5 w' r1 (q11.sub ((q10.div q00).mul q01)) U1 U2 U3) ∧ Below B w w' := by
  have H00 := Lib.hid h00
  have H11 := Lib.hid h11
  have HB0 := Lib.hid hB
  have HBr := Lib.hid hBr
  clear h00 h11 hB hBr
  have HW : Hid (Below B w w) := Lib.hid (Below.refl _ _)
  have hmDiv : ∀ (k : Nat) (v1 v2 v3 v4 v5 : Value) (w : World), (method (k + 1) 30 (.agg #[v1, v2, v3, v4, v5]) "Div").run Tryz.prog w = .ok (32, .agg #[v1, v2, v3, v4, v5]) w := fun _ _ _ _ _ _ _ => by kernel_rfl
  have hmMul : ∀ (k : Nat) (v1 v2 v3 v4 v5 : Value) (w : World), (method (k + 1) 30 (.agg #[v1, v2, v3, v4, v5]) "Mul").run Tryz.prog w = .ok (30, .agg #[v1, v2, v3, v4, v5]) w := fun _ _ _ _ _ _ _ => by kernel_rfl
  have hmSub : ∀ (k : Nat) (v1 v2 v3 v4 v5 : Value) (w : World), (method (k + 1) 30 (.agg #[v1, v2, v3, v4, v5]) "Sub").run Tryz.prog w = .ok (28, .agg #[v1, v2, v3, v4, v5]) w := fun _ _ _ _ _ _ _ => by kernel_rfl
  go_enter Tryz.func153, Tryz.ntmps153
  go_wp2_with fail
  refine wp_loop_rounds 3 ?_
  rw [rounds_succ]
  have lV00 : _ < _ := V00.1
  obtain ⟨tV00_0, tV00_1, tV00_2, tV00_3, tV00_4⟩ := V00.2.1
  go_wp2_with fail
  refine wp_loop_rounds 1 ?_
  rw [rounds_succ]
  go_wp2_with fail
  refine (clear_to q00 A1 A2 A3 _ (by exact V00.2.2) (z00.mono (by decide)) (la14 H00.out)).mono ?_
  rintro e w1 ⟨rfl, hb1⟩
  clear lV00
  clear tV00_0 tV00_1 tV00_2 tV00_3 tV00_4
  replace c0 := keepc hb1 c0 hp
  replace c1 := keepc hb1 c1 hp
  replace hp := Nat.lt_of_lt_of_le hp hb1.size
  replace f5 := keepf hb1 f5 V11.1
  replace f6 := keepf hb1 f6 V11.1
  replace f7 := keepf hb1 f7 V11.1
  replace f8 := keepf hb1 f8 V11.1
  replace f9 := keepf hb1 f9 V11.1
  replace V00 := V00.to hb1
  replace V01 := V01.to hb1
  replace V10 := V10.to hb1
  replace V11 := V11.to hb1
  replace HW := Lib.hid (bstep HW HB0 hb1)
  clear hb1
  go_wp2_with fail
  refine wp_loop_rounds 2 ?_
  rw [rounds_succ]
  go_upto_region 16 with fail
  go_cut [8, 9] (fun v e wx => VarNum w1 (q10.div q00) v wx ∧ e = .int .i64 0)
  case first =>
    have lV00 : _ < _ := V00.1
    have lV10 : _ < _ := V10.1
    obtain ⟨tV00_0, tV00_1, tV00_2, tV00_3, tV00_4⟩ := V00.2.1
    obtain ⟨tV10_0, tV10_1, tV10_2, tV10_3, tV10_4⟩ := V10.2.1
    go_region_held3 (fun w' => w'.cell? ⟨p, 0, none⟩ = some (.slice (some ⟨r0, 0, none⟩) 2 a0) ∧ w'.cell? ⟨p, 1, none⟩ = some (.slice (some ⟨r1, 0, none⟩) 2 a1) ∧ w'.cell? ⟨r0, 0, none⟩ = some (.bool (sn (na q00))) ∧ w'.cell? ⟨r0, 1, none⟩ = some (.slice A1 (ln (ab (na q00))) (ln (ab (na q00)))) ∧ w'.cell? ⟨r0, 2, none⟩ = some (.bool (sn (nb q00))) ∧ w'.cell? ⟨r0, 3, none⟩ = some (.slice A2 (ln (ab (nb q00))) (ln (ab (nb q00)))) ∧ w'.cell? ⟨r0, 4, none⟩ = some (.slice A3 (ln (un q00)) (ln (un q00))) ∧ w'.cell? ⟨r1, 0, none⟩ = some (.bool (sn (na q10))) ∧ w'.cell? ⟨r1, 1, none⟩ = some (.slice C1 (ln (ab (na q10))) (ln (ab (na q10)))) ∧ w'.cell? ⟨r1, 2, none⟩ = some (.bool (sn (nb q10))) ∧ w'.cell? ⟨r1, 3, none⟩ = some (.slice C2 (ln (ab (nb q10))) (ln (ab (nb q10)))) ∧ w'.cell? ⟨r1, 4, none⟩ = some (.slice C3 (ln (un q10)) (ln (un q10)))) (first | with_reducible exact ⟨c0, c1, tV00_0, tV00_1, tV00_2, tV00_3, tV00_4, tV10_0, tV10_1, tV10_2, tV10_3, tV10_4⟩ | with_reducible exact ⟨(keepa c0 hp), (keepa c1 hp), (keepa tV00_0 lV00), (keepa tV00_1 lV00), (keepa tV00_2 lV00), (keepa tV00_3 lV00), (keepa tV00_4 lV00), (keepa tV10_0 lV10), (keepa tV10_1 lV10), (keepa tV10_2 lV10), (keepa tV10_3 lV10), (keepa tV10_4 lV10)⟩ | with_reducible exact ⟨(keepd c0), (keepd c1), (keepd tV00_0), (keepd tV00_1), (keepd tV00_2), (keepd tV00_3), (keepd tV00_4), (keepd tV10_0), (keepd tV10_1), (keepd tV10_2), (keepd tV10_3), (keepd tV10_4)⟩ | with_reducible exact ⟨(keepd (keepa c0 hp)), (keepd (keepa c1 hp)), (keepd (keepa tV00_0 lV00)), (keepd (keepa tV00_1 lV00)), (keepd (keepa tV00_2 lV00)), (keepd (keepa tV00_3 lV00)), (keepd (keepa tV00_4 lV00)), (keepd (keepa tV10_0 lV10)), (keepd (keepa tV10_1 lV10)), (keepd (keepa tV10_2 lV10)), (keepd (keepa tV10_3 lV10)), (keepd (keepa tV10_4 lV10))⟩ | (have _ := gx; with_reducible exact ⟨(keeps (keeps (keeps (keeps (keeps c0 gnp) gnp) gnp) gnp) gnp), (keeps (keeps (keeps (keeps (keeps c1 gnp) gnp) gnp) gnp) gnp), (keeps (keeps (keeps (keeps (keeps tV00_0 gn0) gn0) gn0) gn0) gn0), (keeps (keeps (keeps (keeps (keeps tV00_1 gn0) gn0) gn0) gn0) gn0), (keeps (keeps (keeps (keeps (keeps tV00_2 gn0) gn0) gn0) gn0) gn0), (keeps (keeps (keeps (keeps (keeps tV00_3 gn0) gn0) gn0) gn0) gn0), (keeps (keeps (keeps (keeps (keeps tV00_4 gn0) gn0) gn0) gn0) gn0), (keeps (keeps (keeps (keeps (keeps tV10_0 gn1) gn1) gn1) gn1) gn1), (keeps (keeps (keeps (keeps (keeps tV10_1 gn1) gn1) gn1) gn1) gn1), (keeps (keeps (keeps (keeps (keeps tV10_2 gn1) gn1) gn1) gn1) gn1), (keeps (keeps (keeps (keeps (keeps tV10_3 gn1) gn1) gn1) gn1) gn1), (keeps (keeps (keeps (keeps (keeps tV10_4 gn1) gn1) gn1) gn1) gn1)⟩)) (first
      | (go_at_call 32; go_loud (refine (div_num0 q10 q00 C1 C2 C3 A1 A2 A3 _ (by first | with_reducible exact V10.2.2 | with_reducible exact num3_alloc V10.2.2 | exact V10.2.2 | exact num3_alloc V10.2.2) (by first | with_reducible exact V00.2.2 | with_reducible exact num3_alloc V00.2.2 | exact V00.2.2 | exact num3_alloc V00.2.2) (z10.mono (by decide)) (z00.mono (by decide)) H00.out).mono ?_); rintro e w2 ⟨F1, F2, F3, rfl, hf, ha⟩; have hb2 : Below w1.heap.size w1 w2 := (by first | with_reducible exact ha | with_reducible exact undrew ha | with_reducible exact unalloc ha | with_reducible exact undrewalloc ha | with_reducible exact undrew (unalloc ha)); (try ((first | (with_reducible have gx := newvarN ha) | (with_reducible have gx := newvarN (undrew ha))); have gge := gx.1; have gnp := Nat.ne_of_lt (Nat.lt_of_lt_of_le hp gx.1); have gn0 := Nat.ne_of_lt (Nat.lt_of_lt_of_le V00.1 gx.1); have gn1 := Nat.ne_of_lt (Nat.lt_of_lt_of_le V10.1 gx.1))); have gB := Lib.hid hb2; clear lV00 lV10; clear tV00_0 tV00_1 tV00_2 tV00_3 tV00_4 tV10_0 tV10_1 tV10_2 tV10_3 tV10_4; replace c0 := keepc hb2 c0 hp; replace c1 := keepc hb2 c1 hp; replace hp := Nat.lt_of_lt_of_le hp hb2.size; replace f5 := keepf hb2 f5 V11.1; replace f6 := keepf hb2 f6 V11.1; replace f7 := keepf hb2 f7 V11.1; replace f8 := keepf hb2 f8 V11.1; replace f9 := keepf hb2 f9 V11.1; replace V00 := V00.to hb2; replace V01 := V01.to hb2; replace V10 := V10.to hb2; replace V11 := V11.to hb2; replace HW := Lib.hid (bstep HW HB0 hb2); clear hb2; have lV00 : _ < _ := V00.1; have lV10 : _ < _ := V10.1; obtain ⟨tV00_0, tV00_1, tV00_2, tV00_3, tV00_4⟩ := V00.2.1; obtain ⟨tV10_0, tV10_1, tV10_2, tV10_3, tV10_4⟩ := V10.2.1; clear ha; (try (have gy := gx; obtain ⟨_, _, ⟨ga0, ga1, ga2, ga3, ga4⟩, gf0, gf1, gf2, gf3, gf4⟩ := gy))))
    all_goals
      go_wp2_with fail
      go_meet
      refine ⟨?_, rfl⟩
      first | with_reducible exact varNum_set gB.out gx gge hf | with_reducible exact varNum_new gB.out hf
  case rest =>
    obtain ⟨⟨gf, F1, F2, F3, rfl, F5, hF3, hFg, hFl, hbF⟩, rfl⟩ := hcut
    have ngf : gf ≠ r1 := by have := V10.1; omega
    obtain ⟨w3, rfl⟩ : ∃ X : World, X = wc := ⟨_, rfl⟩
    have VF : VarAt w3 gf (q10.div q00) F1 F2 F3 := ⟨hFl, F5, hF3⟩
    replace c0 := keepc hbF c0 hp
    replace c1 := keepc hbF c1 hp
    replace hp := Nat.lt_of_lt_of_le hp hbF.size
    replace f5 := keepf hbF f5 V11.1
    replace f6 := keepf hbF f6 V11.1
    replace f7 := keepf hbF f7 V11.1
    replace f8 := keepf hbF f8 V11.1
    replace f9 := keepf hbF f9 V11.1
    replace V00 := V00.to hbF
    replace V01 := V01.to hbF
    replace V10 := V10.to hbF
    replace V11 := V11.to hbF
    replace HW := Lib.hid (bstep HW HB0 hbF)
    clear hbF
    clear F5 hF3 hFg hFl
    go_wp2_with fail
    refine wp_loop_rounds 2 ?_
    rw [rounds_succ]
    go_upto_block 7 with fail
    go_cut [] (fun wx => wx.cell? ⟨p, 0, none⟩ = some (.slice (some ⟨r0, 0, none⟩) 2 a0) ∧ wx.cell? ⟨p, 1, none⟩ = some (.slice (some ⟨r1, 0, none⟩) 2 a1) ∧ p < wx.heap.size ∧ VarAt wx r0 q00 A1 A2 A3 ∧ (∃ U1 U2 U3, At5 wx r1 (q11.sub ((q10.div q00).mul q01)) U1 U2 U3) ∧ Below B w wx)
    case first =>
      have lV01 : _ < _ := V01.1
      have lVF : _ < _ := VF.1
      obtain ⟨tV01_0, tV01_1, tV01_2, tV01_3, tV01_4⟩ := V01.2.1
      obtain ⟨tVF_0, tVF_1, tVF_2, tVF_3, tVF_4⟩ := VF.2.1
      go_wp2_with fail
      refine wp_region_held_drew (S := fun w' => w'.cell? ⟨p, 0, none⟩ = some (.slice (some ⟨r0, 0, none⟩) 2 a0) ∧ w'.cell? ⟨p, 1, none⟩ = some (.slice (some ⟨r1, 0, none⟩) 2 a1) ∧ w'.cell? ⟨r0, 5, none⟩ = some (.bool (sn (na q01))) ∧ w'.cell? ⟨r0, 6, none⟩ = some (.slice B1 (ln (ab (na q01))) (ln (ab (na q01)))) ∧ w'.cell? ⟨r0, 7, none⟩ = some (.bool (sn (nb q01))) ∧ w'.cell? ⟨r0, 8, none⟩ = some (.slice B2 (ln (ab (nb q01))) (ln (ab (nb q01)))) ∧ w'.cell? ⟨r0, 9, none⟩ = some (.slice B3 (ln (un q01)) (ln (un q01))) ∧ w'.cell? ⟨gf, 0, none⟩ = some (.bool (sn (na (q10.div q00)))) ∧ w'.cell? ⟨gf, 1, none⟩ = some (.slice F1 (ln (ab (na (q10.div q00)))) (ln (ab (na (q10.div q00))))) ∧ w'.cell? ⟨gf, 2, none⟩ = some (.bool (sn (nb (q10.div q00)))) ∧ w'.cell? ⟨gf, 3, none⟩ = some (.slice F2 (ln (ab (nb (q10.div q00)))) (ln (ab (nb (q10.div q00))))) ∧ w'.cell? ⟨gf, 4, none⟩ = some (.slice F3 (ln (un (q10.div q00))) (ln (un (q10.div q00))))) (by kernel_rfl) ?_ (fun hHeld => ?_)
      · exact ⟨c0, c1, tV01_0, tV01_1, tV01_2, tV01_3, tV01_4, tVF_0, tVF_1, tVF_2, tVF_3, tVF_4⟩
      refine takeH (i := 0) (d := 98) (v := ?v101) rfl rfl (by kernel_rfl) (by kernel_rfl) (by kernel_rfl) (fun _ _ _ h => h) (Or.inl ⟨by rfl, ?y101⟩) (by assumption) ?r101
      case y101 => (intro w hSw; (try dsimp only at hSw); go_simp; try with_reducible rfl)
      try simp only [Act.put, List.setIfInBounds_toArray, List.set_cons_zero, List.set_cons_succ]
      refine takeH (i := 1) (d := 99) (v := ?v102) rfl rfl (by kernel_rfl) (by kernel_rfl) (by kernel_rfl) (fun _ _ _ h => h) (Or.inl ⟨by rfl, ?y102⟩) (by assumption) ?r102
      case y102 => (intro w hSw; (try dsimp only at hSw); go_simp; try with_reducible rfl)
      try simp only [Act.put, List.setIfInBounds_toArray, List.set_cons_zero, List.set_cons_succ]
      refine takeH (i := 2) (d := 100) (v := ?v103) rfl rfl (by kernel_rfl) (by kernel_rfl) (by kernel_rfl) (fun _ _ _ h => h) (Or.inl ⟨by rfl, ?y103⟩) (by assumption) ?r103
      case y103 => (intro w hSw; (try dsimp only at hSw); go_simp; try with_reducible rfl)
      try simp only [Act.put, List.setIfInBounds_toArray, List.set_cons_zero, List.set_cons_succ]
      refine takeH (i := 3) (d := 101) (v := ?v104) rfl rfl (by kernel_rfl) (by kernel_rfl) (by kernel_rfl) (fun _ _ _ h => h) (Or.inl ⟨by rfl, ?y104⟩) (by assumption) ?r104
      case y104 => (intro w hSw; (try dsimp only at hSw); go_simp; try with_reducible rfl)
      try simp only [Act.put, List.setIfInBounds_toArray, List.set_cons_zero, List.set_cons_succ]
      refine takeH (i := 4) (d := 102) (v := ?v105) rfl rfl (by kernel_rfl) (by kernel_rfl) (by kernel_rfl) (fun _ _ _ h => h) (Or.inl ⟨by rfl, ?y105⟩) (by assumption) ?r105
      case y105 => (intro w hSw; (try dsimp only at hSw); go_simp; try with_reducible rfl)
      try simp only [Act.put, List.setIfInBounds_toArray, List.set_cons_zero, List.set_cons_succ]
      refine takeH (i := 5) (d := 103) (v := ?v106) rfl rfl (by kernel_rfl) (by kernel_rfl) (by kernel_rfl) (fun _ _ _ h => h) (Or.inl ⟨by rfl, ?y106⟩) (by assumption) ?r106
      case y106 => (intro w hSw; (try dsimp only at hSw); go_simp; try with_reducible rfl)
      try simp only [Act.put, List.setIfInBounds_toArray, List.set_cons_zero, List.set_cons_succ]
      refine takeH (i := 6) (d := 104) (v := ?v107) rfl rfl (by kernel_rfl) (by kernel_rfl) (by kernel_rfl) (fun _ _ _ h => h) (Or.inl ⟨by rfl, ?y107⟩) (by assumption) ?r107
      case y107 => (intro w hSw; (try dsimp only at hSw); go_simp; try with_reducible rfl)
      try simp only [Act.put, List.setIfInBounds_toArray, List.set_cons_zero, List.set_cons_succ]
      refine takeH (i := 7) (d := 105) (v := ?v108) rfl rfl (by kernel_rfl) (by kernel_rfl) (by kernel_rfl) (fun _ _ _ h => h) (Or.inl ⟨by rfl, ?y108⟩) (by assumption) ?r108
      case y108 => (intro w hSw; (try dsimp only at hSw); go_simp; try with_reducible rfl)
      try simp only [Act.put, List.setIfInBounds_toArray, List.set_cons_zero, List.set_cons_succ]
      refine takeH (i := 8) (d := 106) (v := ?v109) rfl rfl (by kernel_rfl) (by kernel_rfl) (by kernel_rfl) (fun _ _ _ h => h) (Or.inl ⟨by rfl, ?y109⟩) (by assumption) ?r109
      case y109 => (intro w hSw; (try dsimp only at hSw); go_simp; try with_reducible rfl)
      try simp only [Act.put, List.setIfInBounds_toArray, List.set_cons_zero, List.set_cons_succ]
      refine takeH (i := 9) (d := 107) (v := ?v110) rfl rfl (by kernel_rfl) (by kernel_rfl) (by kernel_rfl) (fun _ _ _ h => h) (Or.inl ⟨by rfl, ?y110⟩) (by assumption) ?r110
      case y110 => (intro w hSw; (try dsimp only at hSw); go_simp; try with_reducible rfl)
      try simp only [Act.put, List.setIfInBounds_toArray, List.set_cons_zero, List.set_cons_succ]
      refine takeH (i := 10) (d := 108) (v := ?v111) rfl rfl (by kernel_rfl) (by kernel_rfl) (by kernel_rfl) (fun _ _ _ h => h) (Or.inl ⟨by rfl, ?y111⟩) (by assumption) ?r111
      case y111 => (intro w hSw; (try dsimp only at hSw); go_simp; try with_reducible rfl)
      try simp only [Act.put, List.setIfInBounds_toArray, List.set_cons_zero, List.set_cons_succ]
      refine takeH (i := 13) (d := 111) (v := ?v112) rfl rfl (by kernel_rfl) (by kernel_rfl) (by kernel_rfl) (fun _ _ _ h => h) (Or.inl ⟨by rfl, ?y112⟩) (by assumption) ?r112
      case y112 => (intro w hSw; (try dsimp only at hSw); go_simp; try with_reducible rfl)
      try simp only [Act.put, List.setIfInBounds_toArray, List.set_cons_zero, List.set_cons_succ]
      refine takeH (i := 14) (d := 112) (v := ?v113) rfl rfl (by kernel_rfl) (by kernel_rfl) (by kernel_rfl) (fun _ _ _ h => h) (Or.inl ⟨by rfl, ?y113⟩) (by assumption) ?r113
      case y113 => (intro w hSw; (try dsimp only at hSw); go_simp; try with_reducible rfl)
      try simp only [Act.put, List.setIfInBounds_toArray, List.set_cons_zero, List.set_cons_succ]
      refine takeH (i := 15) (d := 113) (v := ?v114) rfl rfl (by kernel_rfl) (by kernel_rfl) (by kernel_rfl) (fun _ _ _ h => h) (Or.inl ⟨by rfl, ?y114⟩) (by assumption) ?r114
      case y114 => (intro w hSw; (try dsimp only at hSw); go_simp; try with_reducible rfl)
      try simp only [Act.put, List.setIfInBounds_toArray, List.set_cons_zero, List.set_cons_succ]
      refine takeH (i := 16) (d := 114) (v := ?v115) rfl rfl (by kernel_rfl) (by kernel_rfl) (by kernel_rfl) (fun _ _ _ h => h) (Or.inl ⟨by rfl, ?y115⟩) (by assumption) ?r115
      case y115 => (intro w hSw; (try dsimp only at hSw); go_simp; try with_reducible rfl)
      try simp only [Act.put, List.setIfInBounds_toArray, List.set_cons_zero, List.set_cons_succ]
      refine takeH (i := 17) (d := 115) (v := ?v116) rfl rfl (by kernel_rfl) (by kernel_rfl) (by kernel_rfl) (fun _ _ _ h => h) (Or.inl ⟨by rfl, ?y116⟩) (by assumption) ?r116
      case y116 => (intro w hSw; (try dsimp only at hSw); go_simp; try with_reducible rfl)
      try simp only [Act.put, List.setIfInBounds_toArray, List.set_cons_zero, List.set_cons_succ]
      refine takeH (i := 18) (d := 116) (v := ?v117) rfl rfl (by kernel_rfl) (by kernel_rfl) (by kernel_rfl) (fun _ _ _ h => h) (Or.inl ⟨by rfl, ?y117⟩) (by assumption) ?r117
      case y117 => (intro w hSw; (try dsimp only at hSw); go_simp; try with_reducible rfl)
      try simp only [Act.put, List.setIfInBounds_toArray, List.set_cons_zero, List.set_cons_succ]
      refine takeH (i := 19) (d := 117) (v := ?v118) rfl rfl (by kernel_rfl) (by kernel_rfl) (by kernel_rfl) (fun _ _ _ h => h) (Or.inl ⟨by rfl, ?y118⟩) (by assumption) ?r118
      case y118 => (intro w hSw; (try dsimp only at hSw); go_simp; try with_reducible rfl)
      try simp only [Act.put, List.setIfInBounds_toArray, List.set_cons_zero, List.set_cons_succ]
      refine takeH (i := 20) (d := 118) (v := ?v119) rfl rfl (by kernel_rfl) (by kernel_rfl) (by kernel_rfl) (fun _ _ _ h => h) (Or.inl ⟨by rfl, ?y119⟩) (by assumption) ?r119
      case y119 => (intro w hSw; (try dsimp only at hSw); go_simp; try with_reducible rfl)
      try simp only [Act.put, List.setIfInBounds_toArray, List.set_cons_zero, List.set_cons_succ]
      refine takeH (i := 21) (d := 119) (v := ?v120) rfl rfl (by kernel_rfl) (by kernel_rfl) (by kernel_rfl) (fun _ _ _ h => h) (Or.inl ⟨by rfl, ?y120⟩) (by assumption) ?r120
      case y120 => (intro w hSw; (try dsimp only at hSw); go_simp; try with_reducible rfl)
      try simp only [Act.put, List.setIfInBounds_toArray, List.set_cons_zero, List.set_cons_succ]
      clear lV01 lVF
      clear tV01_0 tV01_1 tV01_2 tV01_3 tV01_4 tVF_0 tVF_1 tVF_2 tVF_3 tVF_4
      have lV01 : _ < _ := V01.1
      have lVF : _ < _ := VF.1
      have lV11 : _ < _ := V11.1
      have lV10 : _ < _ := V10.1
      obtain ⟨tV01_0, tV01_1, tV01_2, tV01_3, tV01_4⟩ := V01.2.1
      obtain ⟨tVF_0, tVF_1, tVF_2, tVF_3, tVF_4⟩ := VF.2.1
      obtain ⟨tV11_0, tV11_1, tV11_2, tV11_3, tV11_4⟩ := V11.2.1
      obtain ⟨tV10_0, tV10_1, tV10_2, tV10_3, tV10_4⟩ := V10.2.1
      have zf : sz 10 (q10.div q00) := sz_div (by decide) z10 z00 H00.out
      refine wpAnyH_ready (rs := [11, 22]) (by kernel_rfl) (by simp) (AllReadyH.cons rfl (fun K hK => ?_) (AllReadyH.cons rfl (fun K hK => ?_) AllReadyH.nil))
      · go_simp
        refine hK.out _ _ ?_ (fun hHeld => ?_)
        · exact ⟨c0, c1, tV01_0, tV01_1, tV01_2, tV01_3, tV01_4, tVF_0, tVF_1, tVF_2, tVF_3, tVF_4⟩
        clear hK K
        try simp only [Act.put, List.setIfInBounds_toArray, List.set_cons_zero, List.set_cons_succ]
        refine takeH (i := 12) (d := 110) (v := ?v121) rfl rfl (by kernel_rfl) (by kernel_rfl) (by kernel_rfl) (fun _ _ _ h => h) (Or.inl ⟨by rfl, ?y121⟩) (by assumption) ?r121
        case y121 => (intro w hSw; (try dsimp only at hSw); go_simp; try with_reducible rfl)
        try simp only [Act.put, List.setIfInBounds_toArray, List.set_cons_zero, List.set_cons_succ]
        refine wpAnyH_ready (rs := [22]) (by kernel_rfl) (by simp) (AllReadyH.cons rfl (fun K hK => ?_) AllReadyH.nil)
        go_simp
        refine (mul_num (q10.div q00) q01 F1 F2 F3 B1 B2 B3 _ (by exact VF.2.2) (by exact V01.2.2) (zf.mono (by decide)) (z01.mono (by decide))).mono ?_
        rintro e w6 ⟨M1, M2, M3, rfl, hM, hb6⟩
        replace hb6 := undrew hb6
        clear lV01 lVF lV11 lV10
        clear tV01_0 tV01_1 tV01_2 tV01_3 tV01_4 tVF_0 tVF_1 tVF_2 tVF_3 tVF_4 tV11_0 tV11_1 tV11_2 tV11_3 tV11_4 tV10_0 tV10_1 tV10_2 tV10_3 tV10_4
        replace c0 := keepc hb6 c0 hp
        replace c1 := keepc hb6 c1 hp
        replace hp := Nat.lt_of_lt_of_le hp hb6.size
        replace f5 := keepf hb6 f5 V11.1
        replace f6 := keepf hb6 f6 V11.1
        replace f7 := keepf hb6 f7 V11.1
        replace f8 := keepf hb6 f8 V11.1
        replace f9 := keepf hb6 f9 V11.1
        replace V00 := V00.to hb6
        replace V01 := V01.to hb6
        replace V10 := V10.to hb6
        replace V11 := V11.to hb6
        replace VF := VF.to hb6
        replace HW := Lib.hid (bstep HW HB0 hb6)
        clear hb6
        have lV01 : _ < _ := V01.1
        have lVF : _ < _ := VF.1
        have lV11 : _ < _ := V11.1
        have lV10 : _ < _ := V10.1
        obtain ⟨tV01_0, tV01_1, tV01_2, tV01_3, tV01_4⟩ := V01.2.1
        obtain ⟨tVF_0, tVF_1, tVF_2, tVF_3, tVF_4⟩ := VF.2.1
        obtain ⟨tV11_0, tV11_1, tV11_2, tV11_3, tV11_4⟩ := V11.2.1
        obtain ⟨tV10_0, tV10_1, tV10_2, tV10_3, tV10_4⟩ := V10.2.1
        refine hK.out _ _ ?_ (fun hHeld => ?_)
        · exact ⟨c0, c1, tV01_0, tV01_1, tV01_2, tV01_3, tV01_4, tVF_0, tVF_1, tVF_2, tVF_3, tVF_4⟩
        clear hK K
        try simp only [Act.put, List.setIfInBounds_toArray, List.set_cons_zero, List.set_cons_succ]
        refine wpAnyH_ready (rs := [23]) (by kernel_rfl) (by simp) (AllReadyH.cons rfl (fun K hK => ?_) AllReadyH.nil)
        go_simp
        refine (sub_num q11 ((q10.div q00).mul q01) E1 E2 E3 M1 M2 M3 _ (by exact V11.2.2) (by exact hM) (z11.mono (by decide)) ((sz_mul (zf.mono (by decide : 10 ≤ 10)) (z01.mono (by decide : 2 ≤ 10))).mono (by decide))).mono ?_
        rintro e w7 ⟨U1, U2, U3, rfl, hU, hb7⟩
        clear lV01 lVF lV11 lV10
        clear tV01_0 tV01_1 tV01_2 tV01_3 tV01_4 tVF_0 tVF_1 tVF_2 tVF_3 tVF_4 tV11_0 tV11_1 tV11_2 tV11_3 tV11_4 tV10_0 tV10_1 tV10_2 tV10_3 tV10_4
        replace c0 := keepc hb7 c0 hp
        replace c1 := keepc hb7 c1 hp
        replace hp := Nat.lt_of_lt_of_le hp hb7.size
        replace f5 := keepf hb7 f5 V11.1
        replace f6 := keepf hb7 f6 V11.1
        replace f7 := keepf hb7 f7 V11.1
        replace f8 := keepf hb7 f8 V11.1
        replace f9 := keepf hb7 f9 V11.1
        replace V00 := V00.to hb7
        replace V01 := V01.to hb7
        replace V10 := V10.to hb7
        replace V11 := V11.to hb7
        replace VF := VF.to hb7
        replace HW := Lib.hid (bstep HW HB0 hb7)
        clear hb7
        have lV01 : _ < _ := V01.1
        have lVF : _ < _ := VF.1
        have lV11 : _ < _ := V11.1
        have lV10 : _ < _ := V10.1
        obtain ⟨tV01_0, tV01_1, tV01_2, tV01_3, tV01_4⟩ := V01.2.1
        obtain ⟨tVF_0, tVF_1, tVF_2, tVF_3, tVF_4⟩ := VF.2.1
        obtain ⟨tV11_0, tV11_1, tV11_2, tV11_3, tV11_4⟩ := V11.2.1
        obtain ⟨tV10_0, tV10_1, tV10_2, tV10_3, tV10_4⟩ := V10.2.1
        clear hM
        refine hK.out _ _ ?_ (fun hHeld => ?_)
        · exact ⟨c0, c1, tV01_0, tV01_1, tV01_2, tV01_3, tV01_4, tVF_0, tVF_1, tVF_2, tVF_3, tVF_4⟩
        clear hK K
        try simp only [Act.put, List.setIfInBounds_toArray, List.set_cons_zero, List.set_cons_succ]
        refine takeH (i := 24) (d := 122) (v := ?v122) rfl rfl (by kernel_rfl) (by kernel_rfl) (by kernel_rfl) (fun _ _ _ h => h) (Or.inl ⟨by rfl, ?y122⟩) (by assumption) ?r122
        case y122 => (intro w hSw; (try dsimp only at hSw); go_simp; try with_reducible rfl)
        try simp only [Act.put, List.setIfInBounds_toArray, List.set_cons_zero, List.set_cons_succ]
        refine wpAnyH_ready (rs := [25]) (by kernel_rfl) (by simp) (AllReadyH.cons rfl (fun K hK => ?_) AllReadyH.nil)
        go_simp
        obtain ⟨Y, hY⟩ : ∃ X : World, X = set55 w7 r1 (q11.sub ((q10.div q00).mul q01)) U1 U2 U3 := ⟨_, rfl⟩
        have hw : set55 w7 r1 (q11.sub ((q10.div q00).mul q01)) U1 U2 U3 = Y := hY.symm
        unfold set55 at hw
        rw [hw]
        clear hw
        replace c0 := set55_cell (q := (q11.sub ((q10.div q00).mul q01))) (A1 := U1) (A2 := U2) (A3 := U3) c0 (.inl np)
        rw [← hY] at c0
        replace c1 := set55_cell (q := (q11.sub ((q10.div q00).mul q01))) (A1 := U1) (A2 := U2) (A3 := U3) c1 (.inl np)
        rw [← hY] at c1
        have n01' : r0 ≠ r1 := n01
        replace tV01_0 := set55_cell (q := (q11.sub ((q10.div q00).mul q01))) (A1 := U1) (A2 := U2) (A3 := U3) tV01_0 (.inl n01)
        rw [← hY] at tV01_0
        replace tV01_1 := set55_cell (q := (q11.sub ((q10.div q00).mul q01))) (A1 := U1) (A2 := U2) (A3 := U3) tV01_1 (.inl n01)
        rw [← hY] at tV01_1
        replace tV01_2 := set55_cell (q := (q11.sub ((q10.div q00).mul q01))) (A1 := U1) (A2 := U2) (A3 := U3) tV01_2 (.inl n01)
        rw [← hY] at tV01_2
        replace tV01_3 := set55_cell (q := (q11.sub ((q10.div q00).mul q01))) (A1 := U1) (A2 := U2) (A3 := U3) tV01_3 (.inl n01)
        rw [← hY] at tV01_3
        replace tV01_4 := set55_cell (q := (q11.sub ((q10.div q00).mul q01))) (A1 := U1) (A2 := U2) (A3 := U3) tV01_4 (.inl n01)
        rw [← hY] at tV01_4
        replace tVF_0 := set55_cell (q := (q11.sub ((q10.div q00).mul q01))) (A1 := U1) (A2 := U2) (A3 := U3) tVF_0 (.inl ngf)
        rw [← hY] at tVF_0
        replace tVF_1 := set55_cell (q := (q11.sub ((q10.div q00).mul q01))) (A1 := U1) (A2 := U2) (A3 := U3) tVF_1 (.inl ngf)
        rw [← hY] at tVF_1
        replace tVF_2 := set55_cell (q := (q11.sub ((q10.div q00).mul q01))) (A1 := U1) (A2 := U2) (A3 := U3) tVF_2 (.inl ngf)
        rw [← hY] at tVF_2
        replace tVF_3 := set55_cell (q := (q11.sub ((q10.div q00).mul q01))) (A1 := U1) (A2 := U2) (A3 := U3) tVF_3 (.inl ngf)
        rw [← hY] at tVF_3
        replace tVF_4 := set55_cell (q := (q11.sub ((q10.div q00).mul q01))) (A1 := U1) (A2 := U2) (A3 := U3) tVF_4 (.inl ngf)
        rw [← hY] at tVF_4
        have G0 := set55_var (q := (q11.sub ((q10.div q00).mul q01))) (A1 := U1) (A2 := U2) (A3 := U3) V00 tV10_0
        rw [← hY] at G0
        have G1 := set55_at5 lV11 hU tV10_0 tV11_0 tV11_1 tV11_2 tV11_3 tV11_4
        rw [← hY] at G1
        have G2 : Below B w Y := by rw [hY]; exact set55_below HW.out HBr.out
        have G3 : p < Y.heap.size := by rw [hY, set55_size]; exact hp
        clear hY
        refine hK.out _ _ ?_ (fun hHeld => ?_)
        · exact ⟨c0, c1, tV01_0, tV01_1, tV01_2, tV01_3, tV01_4, tVF_0, tVF_1, tVF_2, tVF_3, tVF_4⟩
        clear hK K
        try simp only [Act.put, List.setIfInBounds_toArray, List.set_cons_zero, List.set_cons_succ]
        refine wpAnyH_done (by kernel_rfl) ?_ _
        go_wp2_with fail
        go_meet
        exact ⟨c0, c1, G3, G0, ⟨U1, U2, U3, G1⟩, G2⟩
      · go_simp
        refine (mul_num (q10.div q00) q01 F1 F2 F3 B1 B2 B3 _ (by exact VF.2.2) (by exact V01.2.2) (zf.mono (by decide)) (z01.mono (by decide))).mono ?_
        rintro e w6 ⟨M1, M2, M3, rfl, hM, hb6⟩
        replace hb6 := undrew hb6
        clear lV01 lVF lV11 lV10
        clear tV01_0 tV01_1 tV01_2 tV01_3 tV01_4 tVF_0 tVF_1 tVF_2 tVF_3 tVF_4 tV11_0 tV11_1 tV11_2 tV11_3 tV11_4 tV10_0 tV10_1 tV10_2 tV10_3 tV10_4
        replace c0 := keepc hb6 c0 hp
        replace c1 := keepc hb6 c1 hp
        replace hp := Nat.lt_of_lt_of_le hp hb6.size
        replace f5 := keepf hb6 f5 V11.1
        replace f6 := keepf hb6 f6 V11.1
        replace f7 := keepf hb6 f7 V11.1
        replace f8 := keepf hb6 f8 V11.1
        replace f9 := keepf hb6 f9 V11.1
        replace V00 := V00.to hb6
        replace V01 := V01.to hb6
        replace V10 := V10.to hb6
        replace V11 := V11.to hb6
        replace VF := VF.to hb6
        replace HW := Lib.hid (bstep HW HB0 hb6)
        clear hb6
        have lV01 : _ < _ := V01.1
        have lVF : _ < _ := VF.1
        have lV11 : _ < _ := V11.1
        have lV10 : _ < _ := V10.1
        obtain ⟨tV01_0, tV01_1, tV01_2, tV01_3, tV01_4⟩ := V01.2.1
        obtain ⟨tVF_0, tVF_1, tVF_2, tVF_3, tVF_4⟩ := VF.2.1
        obtain ⟨tV11_0, tV11_1, tV11_2, tV11_3, tV11_4⟩ := V11.2.1
        obtain ⟨tV10_0, tV10_1, tV10_2, tV10_3, tV10_4⟩ := V10.2.1
        refine hK.out _ _ ?_ (fun hHeld => ?_)
        · exact ⟨c0, c1, tV01_0, tV01_1, tV01_2, tV01_3, tV01_4, tVF_0, tVF_1, tVF_2, tVF_3, tVF_4⟩
        clear hK K
        try simp only [Act.put, List.setIfInBounds_toArray, List.set_cons_zero, List.set_cons_succ]
        refine wpAnyH_ready (rs := [11]) (by kernel_rfl) (by simp) (AllReadyH.cons rfl (fun K hK => ?_) AllReadyH.nil)
        go_simp
        refine hK.out _ _ ?_ (fun hHeld => ?_)
        · exact ⟨c0, c1, tV01_0, tV01_1, tV01_2, tV01_3, tV01_4, tVF_0, tVF_1, tVF_2, tVF_3, tVF_4⟩
        clear hK K
        try simp only [Act.put, List.setIfInBounds_toArray, List.set_cons_zero, List.set_cons_succ]
        refine takeH (i := 12) (d := 110) (v := ?v123) rfl rfl (by kernel_rfl) (by kernel_rfl) (by kernel_rfl) (fun _ _ _ h => h) (Or.inl ⟨by rfl, ?y123⟩) (by assumption) ?r123
        case y123 => (intro w hSw; (try dsimp only at hSw); go_simp; try with_reducible rfl)
        try simp only [Act.put, List.setIfInBounds_toArray, List.set_cons_zero, List.set_cons_succ]
        refine wpAnyH_ready (rs := [23]) (by kernel_rfl) (by simp) (AllReadyH.cons rfl (fun K hK => ?_) AllReadyH.nil)
        go_simp
        refine (sub_num q11 ((q10.div q00).mul q01) E1 E2 E3 M1 M2 M3 _ (by exact V11.2.2) (by exact hM) (z11.mono (by decide)) ((sz_mul (zf.mono (by decide : 10 ≤ 10)) (z01.mono (by decide : 2 ≤ 10))).mono (by decide))).mono ?_
        rintro e w7 ⟨U1, U2, U3, rfl, hU, hb7⟩
        clear lV01 lVF lV11 lV10
        clear tV01_0 tV01_1 tV01_2 tV01_3 tV01_4 tVF_0 tVF_1 tVF_2 tVF_3 tVF_4 tV11_0 tV11_1 tV11_2 tV11_3 tV11_4 tV10_0 tV10_1 tV10_2 tV10_3 tV10_4
        replace c0 := keepc hb7 c0 hp
        replace c1 := keepc hb7 c1 hp
        replace hp := Nat.lt_of_lt_of_le hp hb7.size
        replace f5 := keepf hb7 f5 V11.1
        replace f6 := keepf hb7 f6 V11.1
        replace f7 := keepf hb7 f7 V11.1
        replace f8 := keepf hb7 f8 V11.1
        replace f9 := keepf hb7 f9 V11.1
        replace V00 := V00.to hb7
        replace V01 := V01.to hb7
        replace V10 := V10.to hb7
        replace V11 := V11.to hb7
        replace VF := VF.to hb7
        replace HW := Lib.hid (bstep HW HB0 hb7)
        clear hb7
        have lV01 : _ < _ := V01.1
        have lVF : _ < _ := VF.1
        have lV11 : _ < _ := V11.1
        have lV10 : _ < _ := V10.1
        obtain ⟨tV01_0, tV01_1, tV01_2, tV01_3, tV01_4⟩ := V01.2.1
        obtain ⟨tVF_0, tVF_1, tVF_2, tVF_3, tVF_4⟩ := VF.2.1
        obtain ⟨tV11_0, tV11_1, tV11_2, tV11_3, tV11_4⟩ := V11.2.1
        obtain ⟨tV10_0, tV10_1, tV10_2, tV10_3, tV10_4⟩ := V10.2.1
        clear hM
        refine hK.out _ _ ?_ (fun hHeld => ?_)
        · exact ⟨c0, c1, tV01_0, tV01_1, tV01_2, tV01_3, tV01_4, tVF_0, tVF_1, tVF_2, tVF_3, tVF_4⟩
        clear hK K
        try simp only [Act.put, List.setIfInBounds_toArray, List.set_cons_zero, List.set_cons_succ]
        refine takeH (i := 24) (d := 122) (v := ?v124) rfl rfl (by kernel_rfl) (by kernel_rfl) (by kernel_rfl) (fun _ _ _ h => h) (Or.inl ⟨by rfl, ?y124⟩) (by assumption) ?r124
        case y124 => (intro w hSw; (try dsimp only at hSw); go_simp; try with_reducible rfl)
        try simp only [Act.put, List.setIfInBounds_toArray, List.set_cons_zero, List.set_cons_succ]
        refine wpAnyH_ready (rs := [25]) (by kernel_rfl) (by simp) (AllReadyH.cons rfl (fun K hK => ?_) AllReadyH.nil)
        go_simp
        obtain ⟨Y, hY⟩ : ∃ X : World, X = set55 w7 r1 (q11.sub ((q10.div q00).mul q01)) U1 U2 U3 := ⟨_, rfl⟩
        have hw : set55 w7 r1 (q11.sub ((q10.div q00).mul q01)) U1 U2 U3 = Y := hY.symm
        unfold set55 at hw
        rw [hw]
        clear hw
        replace c0 := set55_cell (q := (q11.sub ((q10.div q00).mul q01))) (A1 := U1) (A2 := U2) (A3 := U3) c0 (.inl np)
        rw [← hY] at c0
        replace c1 := set55_cell (q := (q11.sub ((q10.div q00).mul q01))) (A1 := U1) (A2 := U2) (A3 := U3) c1 (.inl np)
        rw [← hY] at c1
        have n01' : r0 ≠ r1 := n01
        replace tV01_0 := set55_cell (q := (q11.sub ((q10.div q00).mul q01))) (A1 := U1) (A2 := U2) (A3 := U3) tV01_0 (.inl n01)
        rw [← hY] at tV01_0
        replace tV01_1 := set55_cell (q := (q11.sub ((q10.div q00).mul q01))) (A1 := U1) (A2 := U2) (A3 := U3) tV01_1 (.inl n01)
        rw [← hY] at tV01_1
        replace tV01_2 := set55_cell (q := (q11.sub ((q10.div q00).mul q01))) (A1 := U1) (A2 := U2) (A3 := U3) tV01_2 (.inl n01)
        rw [← hY] at tV01_2
        replace tV01_3 := set55_cell (q := (q11.sub ((q10.div q00).mul q01))) (A1 := U1) (A2 := U2) (A3 := U3) tV01_3 (.inl n01)
        rw [← hY] at tV01_3
        replace tV01_4 := set55_cell (q := (q11.sub ((q10.div q00).mul q01))) (A1 := U1) (A2 := U2) (A3 := U3) tV01_4 (.inl n01)
        rw [← hY] at tV01_4
        replace tVF_0 := set55_cell (q := (q11.sub ((q10.div q00).mul q01))) (A1 := U1) (A2 := U2) (A3 := U3) tVF_0 (.inl ngf)
        rw [← hY] at tVF_0
        replace tVF_1 := set55_cell (q := (q11.sub ((q10.div q00).mul q01))) (A1 := U1) (A2 := U2) (A3 := U3) tVF_1 (.inl ngf)
        rw [← hY] at tVF_1
        replace tVF_2 := set55_cell (q := (q11.sub ((q10.div q00).mul q01))) (A1 := U1) (A2 := U2) (A3 := U3) tVF_2 (.inl ngf)
        rw [← hY] at tVF_2
        replace tVF_3 := set55_cell (q := (q11.sub ((q10.div q00).mul q01))) (A1 := U1) (A2 := U2) (A3 := U3) tVF_3 (.inl ngf)
        rw [← hY] at tVF_3
        replace tVF_4 := set55_cell (q := (q11.sub ((q10.div q00).mul q01))) (A1 := U1) (A2 := U2) (A3 := U3) tVF_4 (.inl ngf)
        rw [← hY] at tVF_4
        have G0 := set55_var (q := (q11.sub ((q10.div q00).mul q01))) (A1 := U1) (A2 := U2) (A3 := U3) V00 tV10_0
        rw [← hY] at G0
        have G1 := set55_at5 lV11 hU tV10_0 tV11_0 tV11_1 tV11_2 tV11_3 tV11_4
        rw [← hY] at G1
        have G2 : Below B w Y := by rw [hY]; exact set55_below HW.out HBr.out
        have G3 : p < Y.heap.size := by rw [hY, set55_size]; exact hp
        clear hY
        refine hK.out _ _ ?_ (fun hHeld => ?_)
        · exact ⟨c0, c1, tV01_0, tV01_1, tV01_2, tV01_3, tV01_4, tVF_0, tVF_1, tVF_2, tVF_3, tVF_4⟩
        clear hK K
        try simp only [Act.put, List.setIfInBounds_toArray, List.set_cons_zero, List.set_cons_succ]
        refine wpAnyH_done (by kernel_rfl) ?_ _
        go_wp2_with fail
        go_meet
        exact ⟨c0, c1, G3, G0, ⟨U1, U2, U3, G1⟩, G2⟩
    case rest =>
      clear V00 V01 V10 V11 VF HW c0 c1 hp f5 f6 f7 f8 f9
      obtain ⟨c0, c1, hp, V00, ⟨U1, U2, U3, V11⟩, hB⟩ := hcut
      have HW := Lib.hid hB
      clear hB
      obtain ⟨tV11_0, tV11_1, tV11_2, tV11_3, tV11_4⟩ := V11.2.1
      go_wp2_with fail
      rw [rounds_succ]
      go_wp2_with fail
      rw [rounds_succ]
      go_wp2_with fail
      rw [rounds_succ]
      go_wp2_with fail
      refine wp_loop_rounds 1 ?_
      rw [rounds_succ]
      go_wp2_with fail
      refine (clear_to (q11.sub ((q10.div q00).mul q01)) U1 U2 U3 _ (by exact V11.2.2) ((sz_sub (z11.mono (by decide : 2 ≤ 21)) (sz_mul (sz_div (by decide) z10 z00 H00.out) (z01.mono (by decide : 2 ≤ 10)))).mono (by decide)) (la14 H11.out)).mono ?_
      rintro e w8 ⟨rfl, hb8⟩
      clear tV11_0 tV11_1 tV11_2 tV11_3 tV11_4
      replace c0 := keepc hb8 c0 hp
      replace c1 := keepc hb8 c1 hp
      replace V00 := V00.to hb8
      replace V11 := V11.to hb8
      replace HW := Lib.hid (bstep HW HB0 hb8)
      clear hb8
      go_wp2_with fail
      refine wp_loop_rounds 1 ?_
      rw [rounds_succ]
      go_wp2_with fail
      rw [rounds_succ]
      go_wp2_with fail
      refine bodyPost_ret (v := .tuple #[.int .i64 0, .int .i64 (-1)]) (by simp [results, Tryz.results153, go_sem]) rfl ?_
      exact ⟨rfl, c0, c1, V00, ⟨U1, U2, U3, V11⟩, HW.out⟩
end Go.Proofs.YtgpmlhpgdalheaaGreat
