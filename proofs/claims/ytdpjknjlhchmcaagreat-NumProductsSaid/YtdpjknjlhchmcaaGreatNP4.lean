/- Part 4 of the proof. -/
import Derived.Test.YtdpjknjlhchmcaaGreatNP1
import Derived.ProofKit
import Derived.OpenShut
import Derived.ReadAgain
import Derived.Below
import Derived.Deep.Slices
import Derived.Lib.SmallJoins
import Derived.Deep.SlicePairs
import Derived.Test.YtdpjknjlhchmcaaGreatNP3
import Derived.Deep.LoopGhost
import Derived.Test.YtdpjknjlhchmcaaGreatNP2
namespace Go.Proofs.YtdpjknjlhchmcaaGreat
open Go.ChangeShapes Go.WideShapes Go.ChangeAt Go.RowKit Go.Joins Go.Deep Pl
set_option linter.unusedVariables false
section
variable {H : Type} {enc : TypeId × Value → H} {P : Program}
theorem trodAll_carry {w w' : World} {base : Nat} {spare : Nat → Bool} {held : Bool} : ∀ {ts : List TypeId} {vs : List Value} {ds : List (DataW H)} {ps : List MemPlace}, DataW.TrodAll enc P w base spare held ts vs ds ps → (∀ p ∈ ps, w.sameAt w' p) → DataW.TrodAll enc P w' base spare held ts vs ds ps
  | [], [], [], _, h, _ => h
  | _ :: _, _ :: _, _ :: _, _, ⟨p, q, ⟨n, h1⟩, h2, e⟩, hs => ⟨p, q, ⟨n, DataW.trod_carry n _ _ _ h1 (fun x hx => hs x (by rw [e]; exact List.mem_append_left _ hx))⟩, trodAll_carry h2 (fun x hx => hs x (by rw [e]; exact List.mem_append_right _ hx)), e⟩
/-- Arguments that are only read: what is asked behind the call. -/
theorem read_post {f : Func} {s : ChangeSpec} {apart : Bool} {W W' : World} {args : Array Value} {v : Value} {ds : List (DataW H)} {before : List MemPlace}
    (K : Kids P (· < P.types.size)) (hz : ∀ t e, t < P.types.size → P.underlying t = some (.slice e) → 0 < P.cellsOf e) (hpt : ∀ t ∈ f.params.toList, t < P.types.size)
    (hW : DataW.Whole enc P f.params.toList s.vars apart W args.toList ds [] before) (hA : DataW.TrodAll enc P W 0 (fun _ => true) true f.params.toList args.toList ds before)
    (hres : ∀ (b : Nat) (sp : Nat → Bool) (hd : Bool), DataW.TrodAll enc P W' b sp hd f.resultTypes.toList (v.resultList f.resultTypes.size) (s.fn H (ds ++ [])).results [])
    (hargs : (s.fn H (ds ++ [])).args = ds) (hvars : ∀ sp : Nat → Bool, DataW.TrodVars enc P W' sp s.vars (s.fn H (ds ++ [])).vars [])
    (hb : Below W.heap.size W W') : s.post enc P f apart true false false W args v W' := by
  have hlt := hA.lt
  have hsame : ∀ p ∈ before, W.sameAt W' p := by
    intro p hp
    have hl := hlt p hp
    cases p with
    | cell b off => exact hb.cell (p := ⟨b, off, none⟩) hl
    | map b => exact hb.block b hl
  refine ⟨ds, [], before, [], before, [], hW, hres _ _ _, ?_, hvars _, hb.frame _, fun h => by cases h⟩
  rw [hargs]
  exact trodAll_carry (hA.respare K hz hpt (fun p hp => by simpa using hlt p hp)) hsame
/-- What a slice of structs of three int64s holds. -/
def Triples (w : World) (A : Option Addr) (n : Nat) (X Y Z : Nat → Int) : Prop := ∀ i, i < n → ∃ b off, A = some ⟨b, off, none⟩ ∧ b < w.heap.size ∧
  w.cell? ⟨b, off + i * 3, none⟩ = some (.int .i64 (X i)) ∧ w.cell? ⟨b, off + i * 3 + 1, none⟩ = some (.int .i64 (Y i)) ∧ w.cell? ⟨b, off + i * 3 + 2, none⟩ = some (.int .i64 (Z i)) ∧
  (-9223372036854775808 ≤ X i ∧ X i ≤ 9223372036854775807) ∧ (-9223372036854775808 ≤ Y i ∧ Y i ≤ 9223372036854775807) ∧ (-9223372036854775808 ≤ Z i ∧ Z i ≤ 9223372036854775807)
theorem Triples.to {w w' : World} {A : Option Addr} {n : Nat} {X Y Z : Nat → Int} (h : Triples w A n X Y Z) (hb : Below w.heap.size w w') : Triples w' A n X Y Z := by
  intro i hi
  obtain ⟨b, off, e, hl, c0, c1, c2, r⟩ := h i hi
  exact ⟨b, off, e, Nat.lt_of_lt_of_le hl hb.size, (hb.cell (p := ⟨b, _, none⟩) hl).trans c0, (hb.cell (p := ⟨b, _, none⟩) hl).trans c1, (hb.cell (p := ⟨b, _, none⟩) hl).trans c2, r⟩
theorem add_none {a : Addr} (k : Nat) (h : a.spot = none) : a.add k = ⟨a.block, a.off + k, none⟩ := by
  unfold Addr.add
  split
  · rename_i h0; subst h0; cases a; simp_all
  · rfl
end
end Go.Proofs.YtdpjknjlhchmcaaGreat

namespace Go.Proofs.YtdpjknjlhchmcaaGreat
open Go.RowKit Pl
set_option linter.unusedVariables false
set_option linter.unusedSimpArgs false
/-- A slice of slices: row i is the slice (R i, N i, K i). -/
def Grid (w : World) (A : Option Addr) (n : Nat) (R : Nat → Option Addr) (N K : Nat → Nat) : Prop := ∀ i, i < n → ∃ b off, A = some ⟨b, off, none⟩ ∧ b < w.heap.size ∧ w.cell? ⟨b, off + i, none⟩ = some (.slice (R i) (N i) (K i))
theorem Grid.to {w w' : World} {A : Option Addr} {n : Nat} {R : Nat → Option Addr} {N K : Nat → Nat} (h : Grid w A n R N K) (hb : Below w.heap.size w w') : Grid w' A n R N K := by
  intro i hi
  obtain ⟨b, off, e, hl, c⟩ := h i hi
  exact ⟨b, off, e, Nat.lt_of_lt_of_le hl hb.size, (hb.cell (p := ⟨b, _, none⟩) hl).trans c⟩
def EvenTo (n : Nat) (N : Nat → Nat) (k : Nat) : Prop := n ≤ 32 ∧ ∀ i, i < k → N i = N 0 ∧ N i ≤ 32
def Smalls (n : Nat) (N : Nat → Nat) : Prop := n ≤ 40 ∧ (∀ i, i < n → N i ≤ 40) ∧ (EvenTo n N n → n ≤ 5 ∧ (n = 0 ∨ N 0 ≤ 5))
def RetSmall (w : World) (n : Nat) (N : Nat → Nat) (e : Ending) (w' : World) : Prop := ∃ b : Bool, e = .returned (.bool b) ∧ (b = true → Smalls n N) ∧ Below w.heap.size w w'
set_option maxRecDepth 100000 in
set_option maxHeartbeats 4000000 in
theorem small_any (w : World) (A : Option Addr) (n c : Nat) (R : Nat → Option Addr) (N K : Nat → Nat) (hG : Grid w A n R N K) (hN : ∀ i, i < n → N i ≤ maxLen) (hn : n ≤ maxLen) :
    Calls Tryz.prog 7 #[.slice A n c] w (RetSmall w n N) := by
  by_cases h0 : 40 < n
  · have t0 : decide ((40 : Int) < n) = true := by rw [decide_eq_true_eq]; omega
    clear h0 hN hn hG
    go_enter Tryz.func7, Tryz.ntmps7
    go_wp2_with fail
    go_ret
    exact ⟨false, rfl, (fun h => by cases h), Below.refl _ _⟩
  · have t0 : decide ((40 : Int) < n) = false := by rw [decide_eq_false_iff_not]; omega
    obtain ⟨e0, he0⟩ : ∃ b, decide ((n : Int) ≤ 32) = b := ⟨_, rfl⟩
    have hE : e0 = true → n ≤ 32 := by rintro rfl; rw [decide_eq_true_eq] at he0; omega
    have hE2 : EvenTo n N 0 → e0 = true := by rintro ⟨h, _⟩; rw [← he0, decide_eq_true_eq]; omega
    have HN := Lib.hid hN
    have HE := Lib.hid (And.intro hE hE2)
    have hn40 : n ≤ 40 := by omega
    clear hN hE hE2 h0 hn
    go_enter Tryz.func7, Tryz.ntmps7
    go_wp2_with fail
    go_loopw [3, 14] (fun e i wr => ∃ (b : Bool) (k : Nat), k ≤ n ∧ e = .bool b ∧ i = .int .i64 k ∧ (EvenTo n N k → b = true) ∧ (b = true → EvenTo n N k) ∧ (∀ j, j < k → N j ≤ 40) ∧ wr = w) (fun _ i _ => n - (intOf i).toNat)
    case atStart => exact ⟨e0, 0, Nat.zero_le _, rfl, rfl, HE.out.2, fun h => ⟨HE.out.1 h, fun j hj => absurd hj (by omega)⟩, fun j hj => absurd hj (by omega), rfl⟩
    case round =>
      obtain ⟨b, k, hk, rfl, rfl, h1, h2, h3, rfl⟩ := hrel
      have H1 := Lib.hid h1; have H2 := Lib.hid h2; have H3 := Lib.hid h3
      clear h1 h2 h3
      by_cases hlt : k < n
      · obtain ⟨b0, fo, rfl, hl, d0⟩ := hG k hlt
        obtain ⟨b1, fo1, e1, hl1, d1⟩ := hG 0 (by omega)
        injection e1 with e1; injection e1 with e1 e2; subst e1 e2
        rw [Nat.add_zero] at d1
        by_cases c1 : 40 < N k
        · have t1 : decide ((40 : Int) < N k) = true := by rw [decide_eq_true_eq]; omega
          go_wp2_with fail
          go_ret
          exact ⟨false, rfl, (fun h => by cases h), Below.refl _ _⟩
        · have t1 : decide ((40 : Int) < N k) = false := by rw [decide_eq_false_iff_not]; omega
          cases b with
          | false =>
            go_wp2_with fail
            go_roundw
            case rel =>
              refine ⟨false, k + 1, by omega, rfl, by go_num, fun h => ?_, (fun h => by cases h), fun j hj => ?_, trivial⟩
              · exact H1.out ⟨h.1, fun i hi => h.2 i (by omega)⟩
              · by_cases e : j = k
                · subst e; omega
                · exact H3.out j (by omega)
            case measure => simp [intOf]; omega
          | true =>
            by_cases c2 : N k = N 0
            · have t2 : ((N k : Int) == (N 0 : Int)) = true := by rw [beq_iff_eq]; omega
              obtain ⟨f, hf⟩ : ∃ f, decide ((N 0 : Int) ≤ 32) = f := ⟨_, rfl⟩
              go_wp2_with fail
              go_roundw
              case rel =>
                refine ⟨f, k + 1, by omega, rfl, by go_num, fun h => ?_, fun h => ⟨(H2.out rfl).1, fun i hi => ?_⟩, fun j hj => ?_, trivial⟩
                · rw [← hf, decide_eq_true_eq]; have := (h.2 k (by omega)).2; omega
                · by_cases e : i = k
                  · subst e; rw [h, decide_eq_true_eq] at hf; exact ⟨c2, by omega⟩
                  · exact (H2.out rfl).2 i (by omega)
                · by_cases e : j = k
                  · subst e; omega
                  · exact H3.out j (by omega)
              case measure => simp [intOf]; omega
            · have t2 : ((N k : Int) == (N 0 : Int)) = false := by rw [beq_eq_false_iff_ne]; omega
              go_wp2_with fail
              go_roundw
              case rel =>
                refine ⟨false, k + 1, by omega, rfl, by go_num, fun h => absurd (h.2 k (by omega)).1 c2, (fun h => by cases h), fun j hj => ?_, trivial⟩
                by_cases e : j = k
                · subst e; omega
                · exact H3.out j (by omega)
              case measure => simp [intOf]; omega
      · obtain rfl : k = n := by omega
        cases b with
        | false =>
          go_wp2_with fail
          go_ret
          exact ⟨_, rfl, fun _ => ⟨by omega, H3.out, fun h => absurd (H1.out h) (by decide)⟩, Below.refl _ _⟩
        | true =>
          by_cases c1 : k ≤ 5
          · have t1 : decide ((k : Int) ≤ 5) = true := by rw [decide_eq_true_eq]; omega
            by_cases c2 : k = 0
            · have t2 : ((k : Int) == 0) = true := by simpa using c2
              have C2 := Lib.hid c2
              clear c2
              go_wp2_with fail
              go_ret
              exact ⟨_, rfl, fun _ => ⟨by omega, H3.out, fun h => ⟨c1, .inl C2.out⟩⟩, Below.refl _ _⟩
            · have t2 : ((k : Int) == 0) = false := by simpa using c2
              obtain ⟨b0, fo, rfl, hl, d0⟩ := hG 0 (by omega)
              rw [Nat.add_zero] at d0
              obtain ⟨f, hf⟩ : ∃ f, decide ((N 0 : Int) ≤ 5) = f := ⟨_, rfl⟩
              go_wp2_with fail
              go_ret
              exact ⟨f, rfl, fun hh => ⟨by omega, H3.out, fun h => ⟨c1, .inr (by rw [hh, decide_eq_true_eq] at hf; omega)⟩⟩, Below.refl _ _⟩
          · have t1 : decide ((k : Int) ≤ 5) = false := by rw [decide_eq_false_iff_not]; omega
            go_wp2_with fail
            go_ret
            exact ⟨false, rfl, (fun h => by cases h), Below.refl _ _⟩
end Go.Proofs.YtdpjknjlhchmcaaGreat

namespace Go.Proofs.YtdpjknjlhchmcaaGreat
open Go.RowKit Pl
set_option linter.unusedVariables false
set_option linter.unusedSimpArgs false
/-- A number of the program lies at the offset o of the block g. -/
def PE (w : World) (g o : Nat) (q : Cx) : Prop := ∃ A1 A2 A3, (w.cell? ⟨g, o, none⟩ = some (.bool (sn (na q))) ∧ w.cell? ⟨g, o + 1, none⟩ = some (.slice A1 (ln (ab (na q))) (ln (ab (na q)))) ∧ w.cell? ⟨g, o + 2, none⟩ = some (.bool (sn (nb q))) ∧ w.cell? ⟨g, o + 3, none⟩ = some (.slice A2 (ln (ab (nb q))) (ln (ab (nb q)))) ∧ w.cell? ⟨g, o + 4, none⟩ = some (.slice A3 (ln (un q)) (ln (un q)))) ∧ Num3 w A1 A2 A3 q
theorem PE.lt {w : World} {g o : Nat} {q : Cx} (h : PE w g o q) : g < w.heap.size := by
  obtain ⟨_, _, _, ⟨c0, _⟩, _⟩ := h
  exact World.block_lt_of_cell? w ⟨g, o, none⟩ c0
theorem PE.to {w w' : World} {g o : Nat} {q : Cx} (h : PE w g o q) (hb : Below w.heap.size w w') : PE w' g o q := by
  have l := h.lt
  obtain ⟨A1, A2, A3, ⟨c0, c1, c2, c3, c4⟩, n⟩ := h
  exact ⟨A1, A2, A3, ⟨keepc hb c0 l, keepc hb c1 l, keepc hb c2 l, keepc hb c3 l, keepc hb c4 l⟩, n.to hb⟩
/-- A number is stored at the offset o of the block p. -/
def set5o (w : World) (p o : Nat) (q : Cx) (A1 A2 A3 : Option Addr) : World :=
  ((((w.setCell ⟨p, o, none⟩ (.bool (sn (na q)))).setCell ⟨p, o + 1, none⟩ (.slice A1 (ln (ab (na q))) (ln (ab (na q))))).setCell ⟨p, o + 2, none⟩ (.bool (sn (nb q)))).setCell ⟨p, o + 3, none⟩ (.slice A2 (ln (ab (nb q))) (ln (ab (nb q))))).setCell ⟨p, o + 4, none⟩ (.slice A3 (ln (un q)) (ln (un q)))
theorem set5o_size (w : World) (p o : Nat) (q : Cx) (A1 A2 A3 : Option Addr) : (set5o w p o q A1 A2 A3).heap.size = w.heap.size := by simp [set5o, World.setCell]
theorem set5o_cell {w : World} {p o b i : Nat} {q : Cx} {A1 A2 A3 : Option Addr} {v : Value} (h : w.cell? ⟨b, i, none⟩ = some v) (h1 : b ≠ p ∨ i < o ∨ o + 5 ≤ i) : (set5o w p o q A1 A2 A3).cell? ⟨b, i, none⟩ = some v := keepo (keepo (keepo (keepo (keepo h (by omega)) (by omega)) (by omega)) (by omega)) (by omega)
theorem set5o_below {w W : World} {B p o : Nat} {q : Cx} {A1 A2 A3 : Option Addr} (h : Below B w W) (hp : B ≤ p) : Below B w (set5o W p o q A1 A2 A3) :=
  ((((h.setCell (by exact hp) _).setCell (by exact hp) _).setCell (by exact hp) _).setCell (by exact hp) _).setCell (by exact hp) _
/-- A block whose first cell is no integer holds no number's words. -/
theorem nat_set {w : World} {p o n : Nat} {A : Option Addr} {c : Bool} {v : Value} (h : Nat32 w A n) (u : w.cell? ⟨p, 0, none⟩ = some (.bool c)) : Nat32 (w.setCell ⟨p, o, none⟩ v) A n :=
  h.setBox u (by intro k m e; cases e)
theorem bool_set {w : World} {p o : Nat} {c d : Bool} {v : Value} (u : w.cell? ⟨p, 0, none⟩ = some (.bool c)) (h : o ≠ 0 ∨ v = .bool d) : ∃ e, (w.setCell ⟨p, o, none⟩ v).cell? ⟨p, 0, none⟩ = some (.bool e) := by
  by_cases ho : o = 0
  · subst ho
    rcases h with h | h
    · exact absurd rfl h
    · subst h; exact ⟨d, cell_self u⟩
  · exact ⟨c, keepo u (.inr (by omega))⟩
theorem set5o_nat {w : World} {p o n : Nat} {q : Cx} {A1 A2 A3 A : Option Addr} {c : Bool} (h : Nat32 w A n) (u : w.cell? ⟨p, 0, none⟩ = some (.bool c)) : Nat32 (set5o w p o q A1 A2 A3) A n := by
  obtain ⟨e1, a1⟩ := bool_set (o := o) (v := .bool (sn (na q))) u (.inr rfl)
  obtain ⟨e2, a2⟩ := bool_set (d := false) (o := o + 1) (v := .slice A1 (ln (ab (na q))) (ln (ab (na q)))) a1 (.inl (by omega))
  obtain ⟨e3, a3⟩ := bool_set (d := false) (o := o + 2) (v := .bool (sn (Pl.nb q))) a2 (.inl (by omega))
  obtain ⟨e4, a4⟩ := bool_set (d := false) (o := o + 3) (v := .slice A2 (ln (ab (Pl.nb q))) (ln (ab (Pl.nb q)))) a3 (.inl (by omega))
  exact nat_set (nat_set (nat_set (nat_set (nat_set h u) a1) a2) a3) a4
theorem set5o_bool {w : World} {p o : Nat} {q : Cx} {A1 A2 A3 : Option Addr} {c : Bool} (u : w.cell? ⟨p, 0, none⟩ = some (.bool c)) : ∃ e, (set5o w p o q A1 A2 A3).cell? ⟨p, 0, none⟩ = some (.bool e) := by
  obtain ⟨e1, a1⟩ := bool_set (o := o) (v := .bool (sn (na q))) u (.inr rfl)
  obtain ⟨e2, a2⟩ := bool_set (d := false) (o := o + 1) (v := .slice A1 (ln (ab (na q))) (ln (ab (na q)))) a1 (.inl (by omega))
  obtain ⟨e3, a3⟩ := bool_set (d := false) (o := o + 2) (v := .bool (sn (Pl.nb q))) a2 (.inl (by omega))
  obtain ⟨e4, a4⟩ := bool_set (d := false) (o := o + 3) (v := .slice A2 (ln (ab (Pl.nb q))) (ln (ab (Pl.nb q)))) a3 (.inl (by omega))
  exact bool_set (d := false) (o := o + 4) (v := .slice A3 (ln (un q)) (ln (un q))) a4 (.inl (by omega))
theorem set5o_num3 {w : World} {p o : Nat} {q r : Cx} {A1 A2 A3 B1 B2 B3 : Option Addr} {c : Bool} (h : Num3 w B1 B2 B3 r) (u : w.cell? ⟨p, 0, none⟩ = some (.bool c)) : Num3 (set5o w p o q A1 A2 A3) B1 B2 B3 r := ⟨set5o_nat h.1 u, set5o_nat h.2.1 u, set5o_nat h.2.2 u⟩
theorem PE.set5o {w : World} {g p o i : Nat} {q r : Cx} {A1 A2 A3 : Option Addr} {c : Bool} (h : PE w g i r) (hn : g ≠ p ∨ i + 5 ≤ o ∨ o + 5 ≤ i) (k : w.cell? ⟨p, 0, none⟩ = some (.bool c)) : PE (set5o w p o q A1 A2 A3) g i r := by
  obtain ⟨B1, B2, B3, ⟨c0, c1, c2, c3, c4⟩, n⟩ := h
  exact ⟨B1, B2, B3, ⟨set5o_cell c0 (by omega), set5o_cell c1 (by omega), set5o_cell c2 (by omega), set5o_cell c3 (by omega), set5o_cell c4 (by omega)⟩, set5o_num3 n k⟩
theorem pe_set {w : World} {p o m : Nat} {T : TypeId} {F : Nat → Value} {q : Cx} {A1 A2 A3 : Option Addr} {c : Bool} (hr : w.rowIs p T m F) (ho : o + 5 ≤ m) (k : w.cell? ⟨p, 0, none⟩ = some (.bool c)) (n : Num3 w A1 A2 A3 q) : PE (set5o w p o q A1 A2 A3) p o q := by
  refine ⟨A1, A2, A3, ?_, set5o_num3 n k⟩
  have u0 := hr.cell (i := o) (by omega)
  have u1 := hr.cell (i := o + 1) (by omega)
  have u2 := hr.cell (i := o + 2) (by omega)
  have u3 := hr.cell (i := o + 3) (by omega)
  have u4 := hr.cell (i := o + 4) (by omega)
  unfold Proofs.YtdpjknjlhchmcaaGreat.set5o
  have o0 := cell_self (u := .bool (sn (na q))) u0
  refine ⟨?_, ?_, ?_, ?_, ?_⟩
  · exact keepo (keepo (keepo (keepo o0 (by omega)) (by omega)) (by omega)) (by omega)
  · exact keepo (keepo (keepo (cell_self (keepo u1 (by omega))) (by omega)) (by omega)) (by omega)
  · exact keepo (keepo (cell_self (keepo (keepo u2 (by omega)) (by omega))) (by omega)) (by omega)
  · exact keepo (cell_self (keepo (keepo (keepo u3 (by omega)) (by omega)) (by omega))) (by omega)
  · exact cell_self (keepo (keepo (keepo (keepo u4 (by omega)) (by omega)) (by omega)) (by omega))
/-- The block holds a row of m cells, whatever they are; the first one is a bool. -/
def RowB (w : World) (g : Nat) (T : TypeId) (m : Nat) : Prop := (∃ F, w.rowIs g T m F) ∧ ∃ c, w.cell? ⟨g, 0, none⟩ = some (.bool c)
theorem RowB.lt {w : World} {g m : Nat} {T : TypeId} (h : RowB w g T m) : g < w.heap.size := by
  obtain ⟨⟨F, h⟩, _⟩ := h; exact h.lt
theorem RowB.to {w w' : World} {g m : Nat} {T : TypeId} (h : RowB w g T m) (hb : Below w.heap.size w w') : RowB w' g T m := by
  have l := h.lt
  obtain ⟨⟨F, h⟩, c, k⟩ := h
  exact ⟨⟨F, h.of_block (hb.block g l)⟩, c, keepc hb k l⟩
theorem RowB.set5o {w : World} {g p o m : Nat} {T : TypeId} {q : Cx} {A1 A2 A3 : Option Addr} (h : RowB w g T m) : RowB (set5o w p o q A1 A2 A3) g T m := by
  obtain ⟨⟨F, h⟩, c, k⟩ := h
  by_cases e : g = p
  · subst e
    refine ⟨⟨_, ((((h.set _ _).set _ _).set _ _).set _ _).set _ _⟩, set5o_bool k⟩
  · refine ⟨⟨F, ((((h.setOther (a := ⟨p, o, none⟩) e _).setOther (a := ⟨p, o + 1, none⟩) e _).setOther (a := ⟨p, o + 2, none⟩) e _).setOther (a := ⟨p, o + 3, none⟩) e _).setOther (a := ⟨p, o + 4, none⟩) e _⟩, c, set5o_cell k (.inl e)⟩
end Go.Proofs.YtdpjknjlhchmcaaGreat

namespace Go.Proofs.YtdpjknjlhchmcaaGreat
open Go.RowKit Pl
set_option linter.unusedVariables false
set_option linter.unusedSimpArgs false
/-- The five cells of a new number. -/
def Z5 : Array Value := #[.bool false, .slice none 0 0, .bool false, .slice none 0 0, .slice none 0 0]
/-- 'make' of n numbers. -/
def mkN (w : World) (n : Nat) (T : TypeId) : World := w.alloc (.cells (madeCells Z5 (n * 5)) T)
theorem mkN_size (w : World) (n : Nat) (T : TypeId) : (mkN w n T).heap.size = w.heap.size + 1 := by simp [mkN]
theorem mkN_below (w : World) (n : Nat) (T : TypeId) : Below w.heap.size w (mkN w n T) := (Below.refl _ _).alloc (Nat.le_refl _) _
theorem mkN_row (w : World) (n : Nat) (T : TypeId) (hn : 0 < n) : RowB (mkN w n T) w.heap.size T (n * 5) := by
  have h := World.rowIs_alloc w (madeCells Z5 (n * 5)) T (fun j => Z5[j % 5]!) (fun i hi => by rw [size_madeCells] at hi; simp [madeCells, hi]; rfl)
  rw [size_madeCells] at h
  refine ⟨⟨_, h⟩, false, ?_⟩
  exact h.cell (i := 0) (by omega)
theorem mk_nums (n : Nat) (hn : n ≤ 100000) (w : World) : (Instr.makeSlice 28 (.int .i64 (n : Int)) (.int .i64 (n : Int))).run Tryz.prog w = .ok (.slice (some ⟨w.heap.size, 0, none⟩) n n) (mkN w n 45) := by
  obtain ⟨i, hi, hz, hs, hb⟩ := info_parts Tryz.info_num
  have := run_make (P := Tryz.prog) w 28 _ i _ Tryz.und_nums hi hz .i64 .i64 n n (by omega) (by omega) (by rw [hb]; omega) (by omega)
  simpa [hs, mkN, Z5, Value.cells] using this
/-- What List hands back: a new row of numbers. -/
def RetPL (w : World) (n : Nat) (f : Nat → Cx) (e : Ending) (w' : World) : Prop := ∃ g, e = .returned (.slice (some ⟨g, 0, none⟩) n n) ∧ w.heap.size ≤ g ∧ (0 < n → RowB w' g 45 (n * 5)) ∧ (∀ i, i < n → PE w' g (i * 5) (f i)) ∧ Below w.heap.size w w'
set_option maxHeartbeats 4000000 in
theorem list_any (w : World) (A : Option Addr) (n c : Nat) (X Y Z : Nat → Int) (hT : Triples w A n X Y Z) (hn : n ≤ 1000) :
    Calls Tryz.prog 10 #[.slice A n c] w (RetPL w n fun i => ofv (X i) (Y i) (Z i)) := by
  have hmk := mk_nums n (by omega)
  go_enter Tryz.func10, Tryz.ntmps10
  go_wp2_with fail
  clear hmk
  have hrow := mkN_row w n 45
  have hbel := mkN_below w n 45
  have hsz := mkN_size w n 45
  generalize mkN w n 45 = W0 at *
  go_loopw [11] (fun i wr => ∃ k : Nat, k ≤ n ∧ i = .int .i64 k ∧ w.heap.size < wr.heap.size ∧ (0 < n → RowB wr w.heap.size 45 (n * 5)) ∧ (∀ j, j < k → PE wr w.heap.size (j * 5) (ofv (X j) (Y j) (Z j))) ∧ Below w.heap.size w wr) (fun i _ => n - (intOf i).toNat)
  case atStart => exact ⟨0, Nat.zero_le _, rfl, by omega, hrow, fun j hj => absurd hj (by omega), hbel⟩
  case round =>
    obtain ⟨k, hk, rfl, hsz', hrow', hpe, hbel'⟩ := hrel
    clear hrow hbel hsz
    by_cases hlt : k < n
    · obtain ⟨b, off, rfl, hl, c0, c1, c2, rx, ry, rz⟩ := hT k hlt
      have d0 := (hbel'.cell (p := ⟨b, off + k * 3, none⟩) hl).trans c0
      have d1 := (hbel'.cell (p := ⟨b, off + k * 3 + 1, none⟩) hl).trans c1
      have d2 := (hbel'.cell (p := ⟨b, off + k * 3 + 2, none⟩) hl).trans c2
      clear c0 c1 c2
      have hb2 : b < wr.heap.size := by omega
      generalize hX : X k = x at *
      generalize hY : Y k = y at *
      generalize hZ : Z k = z at *
      clear hT
      go_wp2_with fail
      refine (of_any x y z _ rx ry rz).mono ?_
      rintro e w1 ⟨A1, A2, A3, rfl, n1, hb⟩
      replace hb := unalloc hb
      replace hrow' := (hrow' (by omega)).to hb
      replace hpe := fun j hj => (hpe j hj).to hb
      replace hbel' := hbel'.trans (hb.mono hbel'.size)
      replace hsz' := Nat.lt_of_lt_of_le hsz' hb.size
      clear hb d0 d1 d2 hb2 hl
      have hrow2 := hrow'
      obtain ⟨⟨F, hF⟩, c1, hc1⟩ := hrow'
      have u0 := hF.cell (i := k * 5) (by omega)
      have u1 := hF.cell (i := k * 5 + 1) (by omega)
      have u2 := hF.cell (i := k * 5 + 2) (by omega)
      have u3 := hF.cell (i := k * 5 + 3) (by omega)
      have u4 := hF.cell (i := k * 5 + 4) (by omega)
      have f0 := hF.frozen (k * 5)
      have f1 := hF.frozen (k * 5 + 1)
      have f2 := hF.frozen (k * 5 + 2)
      have f3 := hF.frozen (k * 5 + 3)
      have f4 := hF.frozen (k * 5 + 4)
      have hk5 : k * 5 + 5 ≤ n * 5 := by omega
      have hp := pe_set hF hk5 hc1 n1
      clear hF
      generalize hq : ofv x y z = q at *
      go_wp2_with fail
      obtain ⟨V, hV⟩ : ∃ V : World, V = set5o w1 w.heap.size (k * 5) q A1 A2 A3 := ⟨_, rfl⟩
      have hw : set5o w1 w.heap.size (k * 5) q A1 A2 A3 = V := hV.symm
      unfold set5o at hw
      rw [hw]
      clear hw
      go_roundw
      case rel =>
        refine ⟨k + 1, by omega, by go_num, ?_, fun _ => ?_, fun j hj => ?_, ?_⟩
        · rw [hV, set5o_size]; exact hsz'
        · rw [hV]; exact hrow2.set5o
        · rw [hV]
          by_cases e : j = k
          · subst e; rw [hX, hY, hZ, hq]; exact hp
          · exact (hpe j (by omega)).set5o (.inr (.inl (by omega))) hc1
        · rw [hV]; exact set5o_below hbel' (Nat.le_refl _)
      case measure => simp [intOf]; omega
    · obtain rfl : k = n := by omega
      go_wp2_with fail
      go_ret
      exact ⟨_, rfl, Nat.le_refl _, hrow', hpe, hbel'⟩
end Go.Proofs.YtdpjknjlhchmcaaGreat

namespace Go.Proofs.YtdpjknjlhchmcaaGreat
open Go.RowKit Pl
set_option linter.unusedVariables false
set_option linter.unusedSimpArgs false
/-- An operation whose guard is met. -/
theorem wpOp_gg {P : Program} {ops : Array Oper} {Q : Exit → Act → World → Prop} {i : Nat} {o : Oper} {a : Act} {w : World} {K' : Act → World → Prop} (ho : ops[i]? = some o) (hg : Region.wanted o (yielded ops a.tmps) = true)
    (h : ∀ K : Act → World → Prop, (∀ a w, K' a w → K a w) → o.wp P a w K Q) : wpOp P ops Q i K' a w :=
  wpOp_step ho fun K hK => by rw [if_pos hg]; exact h K hK
/-- An operation whose guard is not met. -/
theorem wpOp_sk {P : Program} {ops : Array Oper} {Q : Exit → Act → World → Prop} {i : Nat} {o : Oper} {a : Act} {w : World} {K' : Act → World → Prop} (ho : ops[i]? = some o) (hg : Region.wanted o (yielded ops a.tmps) = false)
    (h : ∀ K : Act → World → Prop, (∀ a w, K' a w → K a w) → K (a.put o.dst undef) w) : wpOp P ops Q i K' a w :=
  wpOp_step ho fun K hK => by rw [if_neg (by rw [hg]; decide)]; exact h K hK
/-- 'append', by what it is known to do. -/
theorem wp_append_run {P : Program} {o : Oper} {a : Act} {w w' : World} {K : Act → World → Prop} {Q : Exit → Act → World → Prop} {s x : Operand} {t : TypeId} {v1 v2 v' : Value}
    (ho : o.op = .call { callee := .builtin .append, args := #[s, x], argTypes := #[t, t] }) (hs : a.eval s = v1) (hx : a.eval x = v2) (hr : (Builtin.append_ #[t, t] o.type #[v1, v2]).run P w = .ok v' w') (h : K (a.put o.dst v') w') : o.wp P a w K Q := by
  unfold Oper.wp execOp
  simp only [ho, resolve, invoke, builtin, Sem.run_bind, Sem.run_pure, Result.andThen_ok, List.map_toArray, List.map_cons, List.map_nil, hs, hx, hr]
  exact h
-- what has come up, and what holds since
def On (l : Array Bool) (i : Nat) (p : Prop) : Prop := on l i = true → p
theorem On.get {l : Array Bool} {i : Nat} {p : Prop} (h : On l i p) (k : on l i = true) : p := h k
theorem On.keep {l : Array Bool} {i j : Nat} {p : Prop} (h : On l i p) (hn : i ≠ j) : On (l.setIfInBounds j true) i p := fun k => h (on_ne k hn)
theorem On.map {l : Array Bool} {i : Nat} {p q : Prop} (h : On l i p) (f : p → q) : On l i q := fun k => f (h k)
theorem On.new {l : Array Bool} {i : Nat} {p : Prop} (h : p) : On l i p := fun _ => h
/-- The slots' values, as a function; those that have come up hold what they should. -/
def upd (v : Nat → Value) (i : Nat) (x : Value) : Nat → Value := fun j => cond (Nat.beq j i) x (v j)
def OnAll (l : Array Bool) (v val : Nat → Value) : Prop := ∀ j, on l j = true → v j = val j
theorem OnAll.get {l : Array Bool} {v val : Nat → Value} (h : OnAll l v val) (j : Nat) (k : on l j = true) : v j = val j := h j k
theorem OnAll.same {l : Array Bool} {v val : Nat → Value} {i : Nat} {x : Value} (h : OnAll l v val) (hx : x = val i) : OnAll l (upd v i x) val := by
  intro j k
  unfold upd
  by_cases e : Nat.beq j i = true
  · rw [e]; rw [Nat.eq_of_beq_eq_true e]; exact hx
  · rw [Bool.eq_false_iff.2 e]; exact h j k
theorem OnAll.fix {l : Array Bool} {v val : Nat → Value} {i : Nat} {x : Value} (h : OnAll l v val) (_ : v i = x) (hx : x = val i) : OnAll l (upd v i x) val := h.same hx
theorem OnAll.new {l : Array Bool} {v val : Nat → Value} {i : Nat} {x : Value} (h : OnAll l v val) (hx : x = val i) : OnAll (l.setIfInBounds i true) (upd v i x) val := by
  intro j k
  unfold upd
  by_cases e : Nat.beq j i = true
  · rw [e]; rw [Nat.eq_of_beq_eq_true e]; exact hx
  · rw [Bool.eq_false_iff.2 e]; exact h j (on_ne k (fun e2 => e (by rw [e2]; exact Nat.beq_refl _)))
theorem OnAll.start {n : Nat} {v val : Nat → Value} : OnAll (Array.replicate n false) v val := by
  intro j k
  unfold on at k
  rw [Array.getD_eq_getD_getElem?] at k
  by_cases h : j < n
  · simp [h] at k
  · simp [Array.getElem?_eq_none (show (Array.replicate n false).size ≤ j by simp; omega)] at k
def Off (l : Array Bool) (i : Nat) (p : Prop) : Prop := ¬ on l i = true → p
theorem Off.get {l : Array Bool} {i : Nat} {p : Prop} (h : Off l i p) (k : ¬ on l i = true) : p := h k
theorem Off.keep {l : Array Bool} {i j : Nat} {p : Prop} (h : Off l i p) : Off (l.setIfInBounds j true) i p := fun k => h (fun k2 => k (on_mono k2))
theorem Off.done {l : Array Bool} {i : Nat} {p : Prop} (h : i < l.size) : Off (l.setIfInBounds i true) i p := fun k => absurd (by
  unfold on
  simp [Array.getD_eq_getD_getElem?, Array.getElem?_setIfInBounds, h]) k
theorem Off.new {l : Array Bool} {i : Nat} {p : Prop} (h : p) : Off l i p := fun _ => h
/-- As OnAll, for the listed operations alone. -/
def OnFix (l : Array Bool) (v val : Nat → Value) (fx : List Nat) : Prop := ∀ j, j ∈ fx → on l j = true → v j = val j
theorem OnFix.get {l : Array Bool} {v val : Nat → Value} {fx : List Nat} (h : OnFix l v val fx) (j : Nat) (m : j ∈ fx) (k : on l j = true) : v j = val j := h j m k
theorem OnFix.fix {l : Array Bool} {v val : Nat → Value} {fx : List Nat} {i : Nat} {x : Value} (h : OnFix l v val fx) (hx : x = val i) : OnFix l (upd v i x) val fx := by
  intro j m k
  unfold upd
  by_cases e : Nat.beq j i = true
  · rw [e]; rw [Nat.eq_of_beq_eq_true e]; exact hx
  · rw [Bool.eq_false_iff.2 e]; exact h j m k
theorem OnFix.new {l : Array Bool} {v val : Nat → Value} {fx : List Nat} {i : Nat} {x : Value} (h : OnFix l v val fx) (hx : x = val i) : OnFix (l.setIfInBounds i true) (upd v i x) val fx := by
  intro j m k
  unfold upd
  by_cases e : Nat.beq j i = true
  · rw [e]; rw [Nat.eq_of_beq_eq_true e]; exact hx
  · rw [Bool.eq_false_iff.2 e]; exact h j m (on_ne k (fun e2 => e (by rw [e2]; exact Nat.beq_refl _)))
theorem OnFix.other {l : Array Bool} {v val : Nat → Value} {fx : List Nat} {i : Nat} (h : OnFix l v val fx) (hi : i ∉ fx) : OnFix (l.setIfInBounds i true) v val fx :=
  fun j m k => h j m (on_ne k (fun e => hi (e ▸ m)))
theorem OnFix.start {n : Nat} {v val : Nat → Value} {fx : List Nat} : OnFix (Array.replicate n false) v val fx := fun j _ k => OnAll.start (n := n) (v := v) (val := val) j k
theorem On.mono {l : Array Bool} {i j b : Nat} (h : On l j (on l b = true)) (hn : j ≠ i) : On (l.setIfInBounds i true) j (on (l.setIfInBounds i true) b = true) := (h.keep hn).map on_mono
theorem Off.map {l : Array Bool} {i : Nat} {p q : Prop} (h : Off l i p) (f : p → q) : Off l i q := fun k => f (h k)
/-- What has come up after what. -/
def Edg (l : Array Bool) (E : List (Nat × Nat)) : Prop := ∀ p ∈ E, on l p.1 = true → on l p.2 = true
theorem Edg.mono {l : Array Bool} {E : List (Nat × Nat)} {i : Nat} (h : Edg l E) (hi : ∀ p ∈ E, p.1 ≠ i) : Edg (l.setIfInBounds i true) E := fun p hp k => on_mono (h p hp (on_ne k (hi p hp)))
theorem Edg.step {l : Array Bool} {E : List (Nat × Nat)} {i : Nat} (h : Edg l E) (hs : ∀ p ∈ E, p.1 = i → on l p.2 = true) : Edg (l.setIfInBounds i true) E := fun p hp k => by
  by_cases e : p.1 = i
  · exact on_mono (hs p hp e)
  · exact on_mono (h p hp (on_ne k e))
theorem Edg.get {l : Array Bool} {E : List (Nat × Nat)} (h : Edg l E) (a b : Nat) (m : (a, b) ∈ E) (k : on l a = true) : on l b = true := h (a, b) m k
theorem Edg.start {n : Nat} {E : List (Nat × Nat)} : Edg (Array.replicate n false) E := fun p _ k => absurd k (by
  intro k
  unfold on at k
  rw [Array.getD_eq_getD_getElem?] at k
  by_cases h : p.1 < n
  · simp [h] at k
  · simp [Array.getElem?_eq_none (show (Array.replicate n false).size ≤ p.1 by simp; omega)] at k)
theorem OnFix.fixE {l : Array Bool} {v v0 val : Nat → Value} {fx : List Nat} {i : Nat} {x : Value} (h : OnFix l v val fx) (_ : v0 i = x) (hx : x = val i) : OnFix l (upd v i x) val fx := h.fix hx
end Go.Proofs.YtdpjknjlhchmcaaGreat

namespace Go.Proofs.YtdpjknjlhchmcaaGreat
open Go.RowKit Pl
set_option linter.unusedVariables false
set_option linter.unusedSimpArgs false
theorem of_five (v1 v2 v3 v4 v5 : Value) (y : Cx) (B1 B2 B3 : Option Addr) (w : World) (hy : Num3 w B1 B2 B3 y) (k1 : v1.oneCell' = true) (k2 : v2.oneCell' = true) (k3 : v3.oneCell' = true) (k4 : v4.oneCell' = true) (k5 : v5.oneCell' = true) :
    Calls Tryz.prog 175 #[.agg #[v1, v2, v3, v4, v5], .agg #[.bool (sn (na y)), .slice B1 (ln (ab (na y))) (ln (ab (na y))), .bool (sn (nb y)), .slice B2 (ln (ab (nb y))) (ln (ab (nb y))), .slice B3 (ln (un y)) (ln (un y))]] w (RetNum w y) := by
  go_enter Tryz.func175, Tryz.ntmps175
  go_wp2_with fail
  exact bodyPost_ret (v := .agg #[.bool (sn (na y)), .slice B1 (ln (ab (na y))) (ln (ab (na y))), .bool (sn (nb y)), .slice B2 (ln (ab (nb y))) (ln (ab (nb y))), .slice B3 (ln (un y)) (ln (un y))]) (by simp [results, Tryz.results175, go_sem]) rfl ⟨B1, B2, B3, rfl, ⟨((hy.1.alloc _).alloc _).alloc _, ((hy.2.1.alloc _).alloc _).alloc _, ((hy.2.2.alloc _).alloc _).alloc _⟩, (((Below.refl _ _).alloc (Nat.le_refl _) _).alloc (by simp) _).alloc (by simp; omega) _⟩
end Go.Proofs.YtdpjknjlhchmcaaGreat
