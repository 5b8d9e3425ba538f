/- 'Parse' of the texts of numbers. 'Parse' of the texts of numbers that are not real. 'Parse' of the texts of numbers with two parts. -/
import Derived.Test.YtapmhidddgicfaaPA
namespace Go.Proofs.Ytapmhidddgicfaa
open Go.RowKit Pl
set_option linter.unusedVariables false
set_option linter.unusedSimpArgs false

/-- The text of a magnitude. -/
def magL (n d : Nat) (l : List UInt8) : Prop := (l = dl n ∧ d = 1) ∨ l = dl n ++ 47 :: dl d
theorem mag_any {n d : Nat} {l : List UInt8} (r : List UInt8) (g : Nat) (w : World) (hl : magL n d l) (hr : Rd w g (bs (l ++ r)) false) (hs : (l ++ r).length ≤ 1099511627776) (h : nmg r) :
    Calls Try.prog 65 #[.pointer (some ⟨g, 0, none⟩)] w (RetMag g r n d w) := by
  rcases hl with ⟨rfl, rfl⟩ | rfl
  · exact mag_whole n r g w hr hs h
  · exact mag_frac n d r g w (by simpa using hr) (by simpa using hs) h.dg
def sgL (b : Bool) : List UInt8 := if b then [45] else []
theorem mag_head {n d : Nat} {l : List UInt8} (hl : magL n d l) (r : List UInt8) : ∀ x ∈ (l ++ r).head?, dgt x = true := by
  intro x hx
  have : ∃ c t, dl n = c :: t := by cases h : dl n with | nil => exact absurd h (dl_ne n) | cons c t => exact ⟨c, t, rfl⟩
  obtain ⟨c, t, e⟩ := this
  have hc : dgt c = true := dl_dgt (n := n) c (by rw [e]; simp)
  rcases hl with ⟨rfl, _⟩ | rfl <;> (rw [e] at hx; simp at hx; rw [← hx]; exact hc)
theorem take_sign (b : Bool) (l : List UInt8) (g : Nat) (w : World) (hr : Rd w g (bs (sgL b ++ l)) false) (h : ∀ x ∈ l.head?, dgt x = true) :
    Calls Try.prog 64 #[.pointer (some ⟨g, 0, none⟩), .string ⟨#[45]⟩] w fun e w' => e = .returned (.bool b) ∧ Rd w' g (bs l) false ∧ Ap g w w' := by
  cases b
  · exact take_miss 45 l g false w hr (fun x hx e => by have := h x hx; rw [e] at this; cases this)
  · exact take_hit 45 l g false w hr

theorem mag_bound {n d : Nat} {l : List UInt8} (hl : magL n d l) (neg : Bool) (r : List UInt8) (h : (sgL neg ++ (l ++ r)).length ≤ 4096) : ln (ab (zi neg n)) ≤ 4096 ∧ ln n ≤ 4096 ∧ ln d ≤ 4096 := by
  have h1 : l.length ≤ 4096 := by simp at h; omega
  have key : ∀ m, (dl m).length ≤ 4096 → ln m ≤ 4096 := fun m hm => by
    have := vd_lt (t := bs (dl m)) (fun i h => by rw [bs_get]; exact dl_dgt _ (List.getElem_mem _))
    rw [bs_list, vd_dl, bs_size] at this
    exact Nat.le_trans (ln_ten this) hm
  rw [zi_ab]
  rcases hl with ⟨rfl, rfl⟩ | rfl
  · exact ⟨key n h1, key n h1, by rw [ln_one]; omega⟩
  · simp at h1
    exact ⟨key n (by omega), key n (by omega), key d (by omega)⟩
theorem scaled_one (a : Int) (A B : Option Addr) (w : World) (hx : Nat32 w A (ab a)) (hy : Nat32 w B 1) (hb : ln (ab a) ≤ 1099511627776) :
    Calls Try.prog 52 #[.agg #[.bool (sn a), .slice A (ln (ab a)) (ln (ab a))], .slice B 1 1] w (RetWhole w a) := by
  have h := scaled_any a 1 A B w hx hy hb (by rw [ln_one]; omega)
  rw [ln_one, show a * ((1 : Nat) : Int) = a by simp] at h
  exact h
theorem scaled_zero (x : Int) (h0 : x = 0) (d : Nat) (B : Option Addr) (w : World) (hy : Nat32 w B d) (hb : ln d ≤ 1099511627776) :
    Calls Try.prog 52 #[.agg #[.bool false, .slice none 0 0], .slice B (ln d) (ln d)] w (RetWhole w x) := by
  have h := scaled_any 0 d none B w (Nat32.zero _ _) hy (by show ln 0 ≤ _; rw [ln_zero]; omega) hb
  rw [sn_zero, show ab 0 = 0 from rfl, ln_zero, Int.zero_mul] at h
  subst h0; exact h
theorem mul_one (d : Nat) (A B : Option Addr) (w : World) (hx : Nat32 w A d) (hy : Nat32 w B 1) (hb : ln d ≤ 1099511627776) :
    Calls Try.prog 54 #[.slice A (ln d) (ln d), .slice B 1 1] w (RetNat w d) := by
  have h := mul_any d 1 A B w hx hy (by omega) (by rw [ln_one]; omega)
  rwa [ln_one, Nat.mul_one] at h

theorem Rd.other {w : World} {g R i : Nat} {s : ByteArray} {b : Bool} {u : Value} (h : Rd w g s b) (hne : R ≠ g) : Rd (w.setCell ⟨R, i, none⟩ u) g s b :=
  ⟨by simpa [World.setCell] using h.1, keepo h.2.1 (.inl (Ne.symm hne)), keepo h.2.2.1 (.inl (Ne.symm hne)), keepof h.2.2.2.1, keepof h.2.2.2.2⟩
theorem Ap.new {g R i : Nat} {a w : World} {u : Value} (h : Ap g a w) (hg : g ≤ R) (hR : a.heap.size ≤ R) : Ap g a (w.setCell ⟨R, i, none⟩ u) :=
  ⟨h.1.setCell (by exact hg) _, fun k hk hl => (Below.heap_setCell _ _ _ _ (by show k ≠ R; omega)).trans (h.2 k hk hl)⟩
theorem szs {w : World} {a : Addr} {u : Value} {k : Nat} (h : k < w.heap.size) : k < (w.setCell a u).heap.size := by simpa [World.setCell] using h

set_option maxHeartbeats 4000000 in
theorem parse_real0 (neg : Bool) (n d : Nat) (l : List UInt8) (w : World) (hl : magL n d l) (hs : (sgL neg ++ l).length ≤ 4096) (hd0 : d ≠ 0) (x : Int) (hx : x = 0) :
    Calls Try.prog 33 #[.string (bs (sgL neg ++ l))] w (RetNumE w 0 (fr (zi neg n) x d)) := by
  have HS := Lib.hid hs
  have HL := Lib.hid hl
  have H0 := Lib.hid hd0
  have HX := Lib.hid hx
  clear hs hl hd0 hx
  go_enter Try.func33, Try.ntmps33
  have tl : decide (4096 < ((bs (sgL neg ++ l)).size : Int)) = false := by rw [bs_size, decide_eq_false_iff_not]; have := HS.out; omega
  go_wp2_with fail
  obtain ⟨W, hW⟩ : ∃ W : World, W = (w.alloc (.cells #[.bool false, .slice none 0 0, .bool false, .slice none 0 0, .slice none 0 0] 27)).alloc (.cells #[.string (bs (sgL neg ++ l)), .bool false] 106) := ⟨_, rfl⟩
  rw [← hW]
  have r0 : W.cell? ⟨w.heap.size, 0, none⟩ = some (.bool false) := by subst hW; go_simp
  have f0 : W.frozen? ⟨w.heap.size, 0, none⟩ = false := by subst hW; go_simp
  have r1 : W.cell? ⟨w.heap.size, 1, none⟩ = some (.slice none 0 0) := by subst hW; go_simp
  have f1 : W.frozen? ⟨w.heap.size, 1, none⟩ = false := by subst hW; go_simp
  have r2 : W.cell? ⟨w.heap.size, 2, none⟩ = some (.bool false) := by subst hW; go_simp
  have f2 : W.frozen? ⟨w.heap.size, 2, none⟩ = false := by subst hW; go_simp
  have r3 : W.cell? ⟨w.heap.size, 3, none⟩ = some (.slice none 0 0) := by subst hW; go_simp
  have f3 : W.frozen? ⟨w.heap.size, 3, none⟩ = false := by subst hW; go_simp
  have r4 : W.cell? ⟨w.heap.size, 4, none⟩ = some (.slice none 0 0) := by subst hW; go_simp
  have f4 : W.frozen? ⟨w.heap.size, 4, none⟩ = false := by subst hW; go_simp
  have hrd : Rd W (w.heap.size + 1) (bs (sgL neg ++ l)) false := by subst hW; exact ⟨by simp, by go_simp, by go_simp, by go_simp, by go_simp⟩
  have HW : Below w.heap.size w W := by subst hW; exact ((Below.refl _ _).alloc (Nat.le_refl _) _).alloc (by simp) _
  have lR : w.heap.size < W.heap.size := by subst hW; simp; omega
  clear hW tl
  have hRg : w.heap.size ≠ w.heap.size + 1 := by omega
  have AP : Ap (w.heap.size + 1) W W := Ap.refl _ _
  have hgR : w.heap.size ≤ w.heap.size + 1 := by omega
  generalize w.heap.size + 1 = g at *
  refine (take_sign neg l g _ hrd (fun x hx => mag_head HL.out [] x (by simpa using hx))).mono ?_
  rintro e w1 ⟨rfl, hn, ap⟩
  replace r0 := ap.cell r0 hRg lR
  replace f0 := ap.frozen f0 hRg lR
  replace r1 := ap.cell r1 hRg lR
  replace f1 := ap.frozen f1 hRg lR
  replace r2 := ap.cell r2 hRg lR
  replace f2 := ap.frozen f2 hRg lR
  replace r3 := ap.cell r3 hRg lR
  replace f3 := ap.frozen f3 hRg lR
  replace r4 := ap.cell r4 hRg lR
  replace f4 := ap.frozen f4 hRg lR
  replace lR := Nat.lt_of_lt_of_le lR ap.1.size
  replace AP := AP.trans ap
  replace hrd := hn
  clear ap
  go_wp2_with fail
  refine (mag_any [] g _ HL.out (by simpa using hrd) (by have := HS.out; simp at this ⊢; omega) (fun x hx => by simp at hx)).mono ?_
  rintro e w2 ⟨N, M, rfl, hN, hM, hn, ap⟩
  replace r0 := ap.cell r0 hRg lR
  replace f0 := ap.frozen f0 hRg lR
  replace r1 := ap.cell r1 hRg lR
  replace f1 := ap.frozen f1 hRg lR
  replace r2 := ap.cell r2 hRg lR
  replace f2 := ap.frozen f2 hRg lR
  replace r3 := ap.cell r3 hRg lR
  replace f3 := ap.frozen f3 hRg lR
  replace r4 := ap.cell r4 hRg lR
  replace f4 := ap.frozen f4 hRg lR
  replace lR := Nat.lt_of_lt_of_le lR ap.1.size
  replace AP := AP.trans ap
  replace hrd := hn
  clear ap
  go_wp2_with fail
  refine (wholeOf_any neg n N _ (by exact hN)).mono ?_
  rintro e w3 ⟨Z, rfl, hZ, hb⟩
  have ap := Ap.of hb hrd.1
  replace r0 := ap.cell r0 hRg lR
  replace f0 := ap.frozen f0 hRg lR
  replace r1 := ap.cell r1 hRg lR
  replace f1 := ap.frozen f1 hRg lR
  replace r2 := ap.cell r2 hRg lR
  replace f2 := ap.frozen f2 hRg lR
  replace r3 := ap.cell r3 hRg lR
  replace f3 := ap.frozen f3 hRg lR
  replace r4 := ap.cell r4 hRg lR
  replace f4 := ap.frozen f4 hRg lR
  replace hN := ap.nat hrd hN
  replace hM := ap.nat hrd hM
  replace lR := Nat.lt_of_lt_of_le lR ap.1.size
  replace AP := AP.trans ap
  replace hrd := hrd.to hb
  clear ap hb
  go_wp2_with fail
  have HZB : Hid (ln (ab (zi neg n)) ≤ 4096 ∧ ln n ≤ 4096 ∧ ln d ≤ 4096) := Lib.hid (mag_bound HL.out neg [] (by simpa using HS.out))
  generalize zi neg n = z at *
  obtain ⟨X, hX⟩ : ∃ X : World, X = (((w3.alloc (.cells #[.int .u32 1] 84)).alloc (.cells #[.bool (sn (z)), .slice Z (ln (ab (z))) (ln (ab (z)))] 25)).alloc (.cells #[.bool false, .slice none 0 0] 25)) := ⟨_, rfl⟩
  rw [← hX]
  have hb : Below w3.heap.size w3 X := by subst hX; exact (((Below.refl _ _).alloc (Nat.le_refl _) _).alloc (by simp) _).alloc (by simp; omega) _
  have h1 : Nat32 X (some ⟨w3.heap.size, 0, none⟩) 1 := by subst hX; exact ((nat1_new _ _).alloc _).alloc _
  have u0 : X.cell? ⟨w3.heap.size + 1, 0, none⟩ = some (.bool (sn (z))) := by subst hX; go_simp
  have zu0 : X.frozen? ⟨w3.heap.size + 1, 0, none⟩ = false := by subst hX; go_simp
  have u1 : X.cell? ⟨w3.heap.size + 1, 1, none⟩ = some (.slice Z (ln (ab (z))) (ln (ab (z)))) := by subst hX; go_simp
  have zu1 : X.frozen? ⟨w3.heap.size + 1, 1, none⟩ = false := by subst hX; go_simp
  have lbu : w3.heap.size + 1 < X.heap.size := by subst hX; simp <;> omega
  have ngu : w3.heap.size + 1 ≠ g := by have := hrd.1; omega
  have nRu : w3.heap.size + 1 ≠ w.heap.size := by have := lR; omega
  have v0 : X.cell? ⟨w3.heap.size + 1 + 1, 0, none⟩ = some (.bool false) := by subst hX; go_simp
  have zv0 : X.frozen? ⟨w3.heap.size + 1 + 1, 0, none⟩ = false := by subst hX; go_simp
  have v1 : X.cell? ⟨w3.heap.size + 1 + 1, 1, none⟩ = some (.slice none 0 0) := by subst hX; go_simp
  have zv1 : X.frozen? ⟨w3.heap.size + 1 + 1, 1, none⟩ = false := by subst hX; go_simp
  have lbv : w3.heap.size + 1 + 1 < X.heap.size := by subst hX; simp <;> omega
  have ngv : w3.heap.size + 1 + 1 ≠ g := by have := hrd.1; omega
  have nRv : w3.heap.size + 1 + 1 ≠ w.heap.size := by have := lR; omega
  clear hX
  have hWp : W.heap.size ≤ w3.heap.size := AP.1.size
  have hgp : g ≤ w3.heap.size := Nat.le_of_lt hrd.1
  have ap := Ap.of hb hrd.1
  replace r0 := ap.cell r0 hRg lR
  replace f0 := ap.frozen f0 hRg lR
  replace r1 := ap.cell r1 hRg lR
  replace f1 := ap.frozen f1 hRg lR
  replace r2 := ap.cell r2 hRg lR
  replace f2 := ap.frozen f2 hRg lR
  replace r3 := ap.cell r3 hRg lR
  replace f3 := ap.frozen f3 hRg lR
  replace r4 := ap.cell r4 hRg lR
  replace f4 := ap.frozen f4 hRg lR
  replace hN := ap.nat hrd hN
  replace hM := ap.nat hrd hM
  replace hZ := ap.nat hrd hZ
  replace lR := Nat.lt_of_lt_of_le lR ap.1.size
  replace AP := AP.trans ap
  replace hrd := hrd.to hb
  clear ap hb
  generalize w3.heap.size = p at *
  refine (take_miss 105 [] g false _ hrd (fun x hx => by simp at hx)).mono ?_
  rintro e w4 ⟨rfl, hn, ap⟩
  replace r0 := ap.cell r0 hRg lR
  replace f0 := ap.frozen f0 hRg lR
  replace r1 := ap.cell r1 hRg lR
  replace f1 := ap.frozen f1 hRg lR
  replace r2 := ap.cell r2 hRg lR
  replace f2 := ap.frozen f2 hRg lR
  replace r3 := ap.cell r3 hRg lR
  replace f3 := ap.frozen f3 hRg lR
  replace r4 := ap.cell r4 hRg lR
  replace f4 := ap.frozen f4 hRg lR
  replace u0 := ap.cell u0 ngu lbu
  replace zu0 := ap.frozen zu0 ngu lbu
  replace u1 := ap.cell u1 ngu lbu
  replace zu1 := ap.frozen zu1 ngu lbu
  replace v0 := ap.cell v0 ngv lbv
  replace zv0 := ap.frozen zv0 ngv lbv
  replace v1 := ap.cell v1 ngv lbv
  replace zv1 := ap.frozen zv1 ngv lbv
  replace hN := ap.nat hrd hN
  replace hM := ap.nat hrd hM
  replace hZ := ap.nat hrd hZ
  replace h1 := ap.nat hrd h1
  replace lR := Nat.lt_of_lt_of_le lR ap.1.size
  replace lbu := Nat.lt_of_lt_of_le lbu ap.1.size
  replace lbv := Nat.lt_of_lt_of_le lbv ap.1.size
  replace AP := AP.trans ap
  replace hrd := hn
  clear ap
  have q0 := hrd.2.1
  have q1 := hrd.2.2.1
  have t1 : decide (0 < ((bs []).size : Int)) = false := rfl
  have t2 : decide (0 < (bs []).size) = false := rfl
  have t3 : ((ln d : Int) == 0) = false := by have := ln_pos H0.out; rw [beq_eq_false_iff_ne]; omega
  go_wp2_with fail
  clear q0 q1 t1 t2 t3
  go_region_held3 (fun w' => w'.cell? ⟨p + 1, 0, none⟩ = some (.bool (sn (z))) ∧ w'.cell? ⟨p + 1, 1, none⟩ = some (.slice Z (ln (ab (z))) (ln (ab (z)))) ∧ w'.cell? ⟨p + 1 + 1, 0, none⟩ = some (.bool false) ∧ w'.cell? ⟨p + 1 + 1, 1, none⟩ = some (.slice none 0 0)) (first | with_reducible exact ⟨u0, u1, v0, v1⟩ | with_reducible exact ⟨keepd u0, keepd u1, keepd v0, keepd v1⟩ | with_reducible exact ⟨(keeps (keeps (keeps (keeps (keeps u0 nRu) nRu) nRu) nRu) nRu), (keeps (keeps (keeps (keeps (keeps u1 nRu) nRu) nRu) nRu) nRu), (keeps (keeps (keeps (keeps (keeps v0 nRv) nRv) nRv) nRv) nRv), (keeps (keeps (keeps (keeps (keeps v1 nRv) nRv) nRv) nRv) nRv)⟩) (first
    | (go_at_call_of 52 (Value.slice Z (ln (ab z)) (ln (ab z))); refine (scaled_one z Z (some ⟨p, 0, none⟩) _ (by exact hZ) (by exact h1) (Nat.le_trans HZB.out.1 (by omega))).mono ?_; rintro e w5 ⟨Z1, rfl, hZ1, hb⟩; replace hb := undrew hb; have ap := Ap.of hb hrd.1; replace r0 := ap.cell r0 hRg lR; replace f0 := ap.frozen f0 hRg lR; replace r1 := ap.cell r1 hRg lR; replace f1 := ap.frozen f1 hRg lR; replace r2 := ap.cell r2 hRg lR; replace f2 := ap.frozen f2 hRg lR; replace r3 := ap.cell r3 hRg lR; replace f3 := ap.frozen f3 hRg lR; replace r4 := ap.cell r4 hRg lR; replace f4 := ap.frozen f4 hRg lR; replace u0 := ap.cell u0 ngu lbu; replace zu0 := ap.frozen zu0 ngu lbu; replace u1 := ap.cell u1 ngu lbu; replace zu1 := ap.frozen zu1 ngu lbu; replace v0 := ap.cell v0 ngv lbv; replace zv0 := ap.frozen zv0 ngv lbv; replace v1 := ap.cell v1 ngv lbv; replace zv1 := ap.frozen zv1 ngv lbv; replace hN := ap.nat hrd hN; replace hM := ap.nat hrd hM; replace hZ := ap.nat hrd hZ; replace h1 := ap.nat hrd h1; replace lR := Nat.lt_of_lt_of_le lR ap.1.size; replace lbu := Nat.lt_of_lt_of_le lbu ap.1.size; replace lbv := Nat.lt_of_lt_of_le lbv ap.1.size; replace AP := AP.trans ap; replace hrd := hrd.to hb; clear ap hb)
    | (go_at_call_of 52 (Value.slice M (ln d) (ln d)); refine (scaled_zero x HX.out d M _ (by exact hM) (Nat.le_trans HZB.out.2.2 (by omega))).mono ?_; rintro e w6 ⟨Z2, rfl, hZ2, hb⟩; have ap := Ap.of hb hrd.1; replace r0 := ap.cell r0 hRg lR; replace f0 := ap.frozen f0 hRg lR; replace r1 := ap.cell r1 hRg lR; replace f1 := ap.frozen f1 hRg lR; replace r2 := ap.cell r2 hRg lR; replace f2 := ap.frozen f2 hRg lR; replace r3 := ap.cell r3 hRg lR; replace f3 := ap.frozen f3 hRg lR; replace r4 := ap.cell r4 hRg lR; replace f4 := ap.frozen f4 hRg lR; replace u0 := ap.cell u0 ngu lbu; replace zu0 := ap.frozen zu0 ngu lbu; replace u1 := ap.cell u1 ngu lbu; replace zu1 := ap.frozen zu1 ngu lbu; replace v0 := ap.cell v0 ngv lbv; replace zv0 := ap.frozen zv0 ngv lbv; replace v1 := ap.cell v1 ngv lbv; replace zv1 := ap.frozen zv1 ngv lbv; replace hN := ap.nat hrd hN; replace hM := ap.nat hrd hM; replace hZ := ap.nat hrd hZ; replace h1 := ap.nat hrd h1; replace hZ1 := ap.nat hrd hZ1; replace lR := Nat.lt_of_lt_of_le lR ap.1.size; replace lbu := Nat.lt_of_lt_of_le lbu ap.1.size; replace lbv := Nat.lt_of_lt_of_le lbv ap.1.size; replace AP := AP.trans ap; replace hrd := hrd.to hb; clear ap hb)
    | (go_at_call 54; refine (mul_one d M (some ⟨p, 0, none⟩) _ (by exact hM) (by exact h1) (Nat.le_trans HZB.out.2.2 (by omega))).mono ?_; rintro e w7 ⟨Z3, rfl, hZ3, hb⟩; have ap := Ap.of hb hrd.1; replace r0 := ap.cell r0 hRg lR; replace f0 := ap.frozen f0 hRg lR; replace r1 := ap.cell r1 hRg lR; replace f1 := ap.frozen f1 hRg lR; replace r2 := ap.cell r2 hRg lR; replace f2 := ap.frozen f2 hRg lR; replace r3 := ap.cell r3 hRg lR; replace f3 := ap.frozen f3 hRg lR; replace r4 := ap.cell r4 hRg lR; replace f4 := ap.frozen f4 hRg lR; replace u0 := ap.cell u0 ngu lbu; replace zu0 := ap.frozen zu0 ngu lbu; replace u1 := ap.cell u1 ngu lbu; replace zu1 := ap.frozen zu1 ngu lbu; replace v0 := ap.cell v0 ngv lbv; replace zv0 := ap.frozen zv0 ngv lbv; replace v1 := ap.cell v1 ngv lbv; replace zv1 := ap.frozen zv1 ngv lbv; replace hN := ap.nat hrd hN; replace hM := ap.nat hrd hM; replace hZ := ap.nat hrd hZ; replace h1 := ap.nat hrd h1; replace hZ1 := ap.nat hrd hZ1; replace hZ2 := ap.nat hrd hZ2; replace lR := Nat.lt_of_lt_of_le lR ap.1.size; replace lbu := Nat.lt_of_lt_of_le lbu ap.1.size; replace lbv := Nat.lt_of_lt_of_le lbv ap.1.size; replace AP := AP.trans ap; replace hrd := hrd.to hb; clear ap hb)
    | (go_at_call 44; refine (over_any z x d Z1 Z2 Z3 _ (by exact hZ1) (by exact hZ2) (by exact hZ3) (by have := HZB.out.1; omega) (by rw [HX.out]; show ln 0 ≤ _; rw [ln_zero]; omega) (by have := HZB.out.2.2; omega) H0.out).mono ?_; rintro e w8 ⟨Q1, Q2, Q3, rfl, hQ, hb⟩; have ap := Ap.of hb hrd.1; replace r0 := ap.cell r0 hRg lR; replace f0 := ap.frozen f0 hRg lR; replace r1 := ap.cell r1 hRg lR; replace f1 := ap.frozen f1 hRg lR; replace r2 := ap.cell r2 hRg lR; replace f2 := ap.frozen f2 hRg lR; replace r3 := ap.cell r3 hRg lR; replace f3 := ap.frozen f3 hRg lR; replace r4 := ap.cell r4 hRg lR; replace f4 := ap.frozen f4 hRg lR; replace u0 := ap.cell u0 ngu lbu; replace zu0 := ap.frozen zu0 ngu lbu; replace u1 := ap.cell u1 ngu lbu; replace zu1 := ap.frozen zu1 ngu lbu; replace v0 := ap.cell v0 ngv lbv; replace zv0 := ap.frozen zv0 ngv lbv; replace v1 := ap.cell v1 ngv lbv; replace zv1 := ap.frozen zv1 ngv lbv; replace hN := ap.nat hrd hN; replace hM := ap.nat hrd hM; replace hZ := ap.nat hrd hZ; replace h1 := ap.nat hrd h1; replace hZ1 := ap.nat hrd hZ1; replace hZ2 := ap.nat hrd hZ2; replace hZ3 := ap.nat hrd hZ3; replace lR := Nat.lt_of_lt_of_le lR ap.1.size; replace lbu := Nat.lt_of_lt_of_le lbu ap.1.size; replace lbv := Nat.lt_of_lt_of_le lbv ap.1.size; replace AP := AP.trans ap; replace hrd := hrd.to hb; clear ap hb))
  go_wp2_with fail
  replace HW := Lib.hid (HW.trans (AP.1.mono hgR))
  exact bodyPost_ret (v := .tuple #[.agg #[.bool (sn (na (fr z x d))), .slice Q1 (ln (ab (na (fr z x d)))) (ln (ab (na (fr z x d)))), .bool (sn (nb (fr z x d))), .slice Q2 (ln (ab (nb (fr z x d)))) (ln (ab (nb (fr z x d)))), .slice Q3 (ln (un (fr z x d))) (ln (un (fr z x d)))], .int .i64 0]) (by simp [results, Try.results33, go_sem, r0, r1, r2, r3, r4, f0, f1, f2, f3, f4]) rfl (retNumE_fin HW hQ (by omega) r0)

theorem parse_real (neg : Bool) (n d : Nat) (l : List UInt8) (w : World) (hl : magL n d l) (hs : (sgL neg ++ l).length ≤ 4096) (hd0 : d ≠ 0) :
    Calls Try.prog 33 #[.string (bs (sgL neg ++ l))] w (RetNumE w 0 (fr (zi neg n) 0 d)) := parse_real0 neg n d l w hl hs hd0 0 rfl

end Go.Proofs.Ytapmhidddgicfaa

namespace Go.Proofs.Ytapmhidddgicfaa
open Go.RowKit Pl
set_option linter.unusedVariables false
set_option linter.unusedSimpArgs false

theorem nmg_i : nmg [105] := fun x hx => by simp at hx; subst hx; exact ⟨rfl, by decide, by decide, by decide⟩
theorem one_scaled (a : Int) (A B : Option Addr) (w : World) (hx : Nat32 w A (ab a)) (hy : Nat32 w B 1) (hb : ln (ab a) ≤ 1099511627776) :
    Calls Try.prog 52 #[.agg #[.bool (sn a), .slice A (ln (ab a)) (ln (ab a))], .slice B 1 1] w (RetWhole w a) := scaled_one a A B w hx hy hb
theorem one_mul' (d : Nat) (A B : Option Addr) (w : World) (hx : Nat32 w A d) (hy : Nat32 w B 1) (hb : ln d ≤ 1099511627776) :
    Calls Try.prog 54 #[.slice B 1 1, .slice A (ln d) (ln d)] w (RetNat w d) := by
  have h := mul_any 1 d B A w hy hx (by rw [ln_one]; omega) (by omega)
  rwa [ln_one, Nat.one_mul] at h

set_option maxHeartbeats 4000000 in
theorem parse_imag0 (neg : Bool) (n d : Nat) (l : List UInt8) (w : World) (hl : magL n d l) (hs : (sgL neg ++ (l ++ [105])).length ≤ 4096) (hd0 : d ≠ 0) (x : Int) (hx : x = 0) :
    Calls Try.prog 33 #[.string (bs (sgL neg ++ (l ++ [105])))] w (RetNumE w 0 (fr x (zi neg n) d)) := by
  have HS := Lib.hid hs
  have HL := Lib.hid hl
  have H0 := Lib.hid hd0
  have HX := Lib.hid hx
  clear hs hl hd0 hx
  go_enter Try.func33, Try.ntmps33
  have tl : decide (4096 < ((bs (sgL neg ++ (l ++ [105]))).size : Int)) = false := by rw [bs_size, decide_eq_false_iff_not]; have := HS.out; omega
  go_wp2_with fail
  obtain ⟨W, hW⟩ : ∃ W : World, W = (w.alloc (.cells #[.bool false, .slice none 0 0, .bool false, .slice none 0 0, .slice none 0 0] 27)).alloc (.cells #[.string (bs (sgL neg ++ (l ++ [105]))), .bool false] 106) := ⟨_, rfl⟩
  rw [← hW]
  have r0 : W.cell? ⟨w.heap.size, 0, none⟩ = some (.bool false) := by subst hW; go_simp
  have f0 : W.frozen? ⟨w.heap.size, 0, none⟩ = false := by subst hW; go_simp
  have r1 : W.cell? ⟨w.heap.size, 1, none⟩ = some (.slice none 0 0) := by subst hW; go_simp
  have f1 : W.frozen? ⟨w.heap.size, 1, none⟩ = false := by subst hW; go_simp
  have r2 : W.cell? ⟨w.heap.size, 2, none⟩ = some (.bool false) := by subst hW; go_simp
  have f2 : W.frozen? ⟨w.heap.size, 2, none⟩ = false := by subst hW; go_simp
  have r3 : W.cell? ⟨w.heap.size, 3, none⟩ = some (.slice none 0 0) := by subst hW; go_simp
  have f3 : W.frozen? ⟨w.heap.size, 3, none⟩ = false := by subst hW; go_simp
  have r4 : W.cell? ⟨w.heap.size, 4, none⟩ = some (.slice none 0 0) := by subst hW; go_simp
  have f4 : W.frozen? ⟨w.heap.size, 4, none⟩ = false := by subst hW; go_simp
  have hrd : Rd W (w.heap.size + 1) (bs (sgL neg ++ (l ++ [105]))) false := by subst hW; exact ⟨by simp, by go_simp, by go_simp, by go_simp, by go_simp⟩
  have HW : Below w.heap.size w W := by subst hW; exact ((Below.refl _ _).alloc (Nat.le_refl _) _).alloc (by simp) _
  have lR : w.heap.size < W.heap.size := by subst hW; simp; omega
  clear hW tl
  have hRg : w.heap.size ≠ w.heap.size + 1 := by omega
  have AP : Ap (w.heap.size + 1) W W := Ap.refl _ _
  have hgR : w.heap.size ≤ w.heap.size + 1 := by omega
  generalize w.heap.size + 1 = g at *
  refine (take_sign neg (l ++ [105]) g _ hrd (fun x hx => mag_head HL.out [105] x hx)).mono ?_
  rintro e w1 ⟨rfl, hn, ap⟩
  replace r0 := ap.cell r0 hRg lR
  replace f0 := ap.frozen f0 hRg lR
  replace r1 := ap.cell r1 hRg lR
  replace f1 := ap.frozen f1 hRg lR
  replace r2 := ap.cell r2 hRg lR
  replace f2 := ap.frozen f2 hRg lR
  replace r3 := ap.cell r3 hRg lR
  replace f3 := ap.frozen f3 hRg lR
  replace r4 := ap.cell r4 hRg lR
  replace f4 := ap.frozen f4 hRg lR
  replace lR := Nat.lt_of_lt_of_le lR ap.1.size
  replace AP := AP.trans ap
  replace hrd := hn
  clear ap
  go_wp2_with fail
  refine (mag_any [105] g _ HL.out hrd (by have := HS.out; simp at this ⊢; omega) nmg_i).mono ?_
  rintro e w2 ⟨N, M, rfl, hN, hM, hn, ap⟩
  replace r0 := ap.cell r0 hRg lR
  replace f0 := ap.frozen f0 hRg lR
  replace r1 := ap.cell r1 hRg lR
  replace f1 := ap.frozen f1 hRg lR
  replace r2 := ap.cell r2 hRg lR
  replace f2 := ap.frozen f2 hRg lR
  replace r3 := ap.cell r3 hRg lR
  replace f3 := ap.frozen f3 hRg lR
  replace r4 := ap.cell r4 hRg lR
  replace f4 := ap.frozen f4 hRg lR
  replace lR := Nat.lt_of_lt_of_le lR ap.1.size
  replace AP := AP.trans ap
  replace hrd := hn
  clear ap
  go_wp2_with fail
  refine (wholeOf_any neg n N _ (by exact hN)).mono ?_
  rintro e w3 ⟨Z, rfl, hZ, hb⟩
  have ap := Ap.of hb hrd.1
  replace r0 := ap.cell r0 hRg lR
  replace f0 := ap.frozen f0 hRg lR
  replace r1 := ap.cell r1 hRg lR
  replace f1 := ap.frozen f1 hRg lR
  replace r2 := ap.cell r2 hRg lR
  replace f2 := ap.frozen f2 hRg lR
  replace r3 := ap.cell r3 hRg lR
  replace f3 := ap.frozen f3 hRg lR
  replace r4 := ap.cell r4 hRg lR
  replace f4 := ap.frozen f4 hRg lR
  replace hN := ap.nat hrd hN
  replace hM := ap.nat hrd hM
  replace lR := Nat.lt_of_lt_of_le lR ap.1.size
  replace AP := AP.trans ap
  replace hrd := hrd.to hb
  clear ap hb
  go_wp2_with fail
  have HZB : Hid (ln (ab (zi neg n)) ≤ 4096 ∧ ln n ≤ 4096 ∧ ln d ≤ 4096) := Lib.hid (mag_bound HL.out neg [105] HS.out)
  generalize zi neg n = z at *
  obtain ⟨X, hX⟩ : ∃ X : World, X = (((w3.alloc (.cells #[.int .u32 1] 84)).alloc (.cells #[.bool (sn (z)), .slice Z (ln (ab (z))) (ln (ab (z)))] 25)).alloc (.cells #[.bool false, .slice none 0 0] 25)) := ⟨_, rfl⟩
  rw [← hX]
  have hb : Below w3.heap.size w3 X := by subst hX; exact (((Below.refl _ _).alloc (Nat.le_refl _) _).alloc (by simp) _).alloc (by simp; omega) _
  have h1 : Nat32 X (some ⟨w3.heap.size, 0, none⟩) 1 := by subst hX; exact ((nat1_new _ _).alloc _).alloc _
  have u0 : X.cell? ⟨w3.heap.size + 1, 0, none⟩ = some (.bool (sn (z))) := by subst hX; go_simp
  have zu0 : X.frozen? ⟨w3.heap.size + 1, 0, none⟩ = false := by subst hX; go_simp
  have u1 : X.cell? ⟨w3.heap.size + 1, 1, none⟩ = some (.slice Z (ln (ab (z))) (ln (ab (z)))) := by subst hX; go_simp
  have zu1 : X.frozen? ⟨w3.heap.size + 1, 1, none⟩ = false := by subst hX; go_simp
  have lbu : w3.heap.size + 1 < X.heap.size := by subst hX; simp <;> omega
  have ngu : w3.heap.size + 1 ≠ g := by have := hrd.1; omega
  have nRu : w3.heap.size + 1 ≠ w.heap.size := by have := lR; omega
  have v0 : X.cell? ⟨w3.heap.size + 1 + 1, 0, none⟩ = some (.bool false) := by subst hX; go_simp
  have zv0 : X.frozen? ⟨w3.heap.size + 1 + 1, 0, none⟩ = false := by subst hX; go_simp
  have v1 : X.cell? ⟨w3.heap.size + 1 + 1, 1, none⟩ = some (.slice none 0 0) := by subst hX; go_simp
  have zv1 : X.frozen? ⟨w3.heap.size + 1 + 1, 1, none⟩ = false := by subst hX; go_simp
  have lbv : w3.heap.size + 1 + 1 < X.heap.size := by subst hX; simp <;> omega
  have ngv : w3.heap.size + 1 + 1 ≠ g := by have := hrd.1; omega
  have nRv : w3.heap.size + 1 + 1 ≠ w.heap.size := by have := lR; omega
  clear hX
  have hWp : W.heap.size ≤ w3.heap.size := AP.1.size
  have hgp : g ≤ w3.heap.size := Nat.le_of_lt hrd.1
  have ap := Ap.of hb hrd.1
  replace r0 := ap.cell r0 hRg lR
  replace f0 := ap.frozen f0 hRg lR
  replace r1 := ap.cell r1 hRg lR
  replace f1 := ap.frozen f1 hRg lR
  replace r2 := ap.cell r2 hRg lR
  replace f2 := ap.frozen f2 hRg lR
  replace r3 := ap.cell r3 hRg lR
  replace f3 := ap.frozen f3 hRg lR
  replace r4 := ap.cell r4 hRg lR
  replace f4 := ap.frozen f4 hRg lR
  replace hN := ap.nat hrd hN
  replace hM := ap.nat hrd hM
  replace hZ := ap.nat hrd hZ
  replace lR := Nat.lt_of_lt_of_le lR ap.1.size
  replace AP := AP.trans ap
  replace hrd := hrd.to hb
  clear ap hb
  generalize w3.heap.size = p at *
  refine (take_hit 105 [] g false _ hrd).mono ?_
  rintro e w4 ⟨rfl, hn, ap⟩
  replace r0 := ap.cell r0 hRg lR
  replace f0 := ap.frozen f0 hRg lR
  replace r1 := ap.cell r1 hRg lR
  replace f1 := ap.frozen f1 hRg lR
  replace r2 := ap.cell r2 hRg lR
  replace f2 := ap.frozen f2 hRg lR
  replace r3 := ap.cell r3 hRg lR
  replace f3 := ap.frozen f3 hRg lR
  replace r4 := ap.cell r4 hRg lR
  replace f4 := ap.frozen f4 hRg lR
  replace u0 := ap.cell u0 ngu lbu
  replace zu0 := ap.frozen zu0 ngu lbu
  replace u1 := ap.cell u1 ngu lbu
  replace zu1 := ap.frozen zu1 ngu lbu
  replace v0 := ap.cell v0 ngv lbv
  replace zv0 := ap.frozen zv0 ngv lbv
  replace v1 := ap.cell v1 ngv lbv
  replace zv1 := ap.frozen zv1 ngv lbv
  replace hN := ap.nat hrd hN
  replace hM := ap.nat hrd hM
  replace hZ := ap.nat hrd hZ
  replace h1 := ap.nat hrd h1
  replace lR := Nat.lt_of_lt_of_le lR ap.1.size
  replace lbu := Nat.lt_of_lt_of_le lbu ap.1.size
  replace lbv := Nat.lt_of_lt_of_le lbv ap.1.size
  replace AP := AP.trans ap
  replace hrd := hn
  clear ap
  have q0 := hrd.2.1
  have q1 := hrd.2.2.1
  have t1 : decide (0 < ((bs []).size : Int)) = false := rfl
  have t2 : decide (0 < (bs []).size) = false := rfl
  have t3 : ((ln d : Int) == 0) = false := by have := ln_pos H0.out; rw [beq_eq_false_iff_ne]; omega
  go_wp2_with fail
  clear q0 q1 t1 t2 t3
  obtain ⟨X1, hX⟩ : ∃ X : World, X = w4.setCell ⟨p + 1, 0, none⟩ (.bool false) := ⟨_, rfl⟩
  rw [← hX]
  replace hN := hN.setBox (i := 0) (u := .bool false) u0 (by intro k m e; cases e)
  rw [← hX] at hN
  replace hM := hM.setBox (i := 0) (u := .bool false) u0 (by intro k m e; cases e)
  rw [← hX] at hM
  replace hZ := hZ.setBox (i := 0) (u := .bool false) u0 (by intro k m e; cases e)
  rw [← hX] at hZ
  replace h1 := h1.setBox (i := 0) (u := .bool false) u0 (by intro k m e; cases e)
  rw [← hX] at h1
  replace r0 := keepo (R := p + 1) (j := 0) (u := .bool false) r0 (.inl (Ne.symm nRu))
  rw [← hX] at r0
  replace f0 := keepof (R := p + 1) (j := 0) (u := .bool false) f0
  rw [← hX] at f0
  replace r1 := keepo (R := p + 1) (j := 0) (u := .bool false) r1 (.inl (Ne.symm nRu))
  rw [← hX] at r1
  replace f1 := keepof (R := p + 1) (j := 0) (u := .bool false) f1
  rw [← hX] at f1
  replace r2 := keepo (R := p + 1) (j := 0) (u := .bool false) r2 (.inl (Ne.symm nRu))
  rw [← hX] at r2
  replace f2 := keepof (R := p + 1) (j := 0) (u := .bool false) f2
  rw [← hX] at f2
  replace r3 := keepo (R := p + 1) (j := 0) (u := .bool false) r3 (.inl (Ne.symm nRu))
  rw [← hX] at r3
  replace f3 := keepof (R := p + 1) (j := 0) (u := .bool false) f3
  rw [← hX] at f3
  replace r4 := keepo (R := p + 1) (j := 0) (u := .bool false) r4 (.inl (Ne.symm nRu))
  rw [← hX] at r4
  replace f4 := keepof (R := p + 1) (j := 0) (u := .bool false) f4
  rw [← hX] at f4
  replace u0 := cell_self (u := .bool false) u0
  rw [← hX] at u0
  replace zu0 := keepof (R := p + 1) (j := 0) (u := .bool false) zu0
  rw [← hX] at zu0
  replace u1 := keepo (R := p + 1) (j := 0) (u := .bool false) u1 (.inr (by simp))
  rw [← hX] at u1
  replace zu1 := keepof (R := p + 1) (j := 0) (u := .bool false) zu1
  rw [← hX] at zu1
  replace v0 := keepo (R := p + 1) (j := 0) (u := .bool false) v0 (.inl (by omega))
  rw [← hX] at v0
  replace zv0 := keepof (R := p + 1) (j := 0) (u := .bool false) zv0
  rw [← hX] at zv0
  replace v1 := keepo (R := p + 1) (j := 0) (u := .bool false) v1 (.inl (by omega))
  rw [← hX] at v1
  replace zv1 := keepof (R := p + 1) (j := 0) (u := .bool false) zv1
  rw [← hX] at zv1
  replace lR := szs (a := ⟨p + 1, 0, none⟩) (u := .bool false) lR
  rw [← hX] at lR
  replace lbu := szs (a := ⟨p + 1, 0, none⟩) (u := .bool false) lbu
  rw [← hX] at lbu
  replace lbv := szs (a := ⟨p + 1, 0, none⟩) (u := .bool false) lbv
  rw [← hX] at lbv
  replace hrd := hrd.other (i := 0) (u := .bool false) ngu
  replace AP := AP.new (R := p + 1) (i := 0) (u := .bool false) (by omega) (by omega)
  rw [← hX] at hrd AP
  clear hX
  obtain ⟨X2, hX⟩ : ∃ X : World, X = X1.setCell ⟨p + 1, 1, none⟩ (.slice none 0 0) := ⟨_, rfl⟩
  rw [← hX]
  replace hN := hN.setBox (i := 1) (u := .slice none 0 0) u0 (by intro k m e; cases e)
  rw [← hX] at hN
  replace hM := hM.setBox (i := 1) (u := .slice none 0 0) u0 (by intro k m e; cases e)
  rw [← hX] at hM
  replace hZ := hZ.setBox (i := 1) (u := .slice none 0 0) u0 (by intro k m e; cases e)
  rw [← hX] at hZ
  replace h1 := h1.setBox (i := 1) (u := .slice none 0 0) u0 (by intro k m e; cases e)
  rw [← hX] at h1
  replace r0 := keepo (R := p + 1) (j := 1) (u := .slice none 0 0) r0 (.inl (Ne.symm nRu))
  rw [← hX] at r0
  replace f0 := keepof (R := p + 1) (j := 1) (u := .slice none 0 0) f0
  rw [← hX] at f0
  replace r1 := keepo (R := p + 1) (j := 1) (u := .slice none 0 0) r1 (.inl (Ne.symm nRu))
  rw [← hX] at r1
  replace f1 := keepof (R := p + 1) (j := 1) (u := .slice none 0 0) f1
  rw [← hX] at f1
  replace r2 := keepo (R := p + 1) (j := 1) (u := .slice none 0 0) r2 (.inl (Ne.symm nRu))
  rw [← hX] at r2
  replace f2 := keepof (R := p + 1) (j := 1) (u := .slice none 0 0) f2
  rw [← hX] at f2
  replace r3 := keepo (R := p + 1) (j := 1) (u := .slice none 0 0) r3 (.inl (Ne.symm nRu))
  rw [← hX] at r3
  replace f3 := keepof (R := p + 1) (j := 1) (u := .slice none 0 0) f3
  rw [← hX] at f3
  replace r4 := keepo (R := p + 1) (j := 1) (u := .slice none 0 0) r4 (.inl (Ne.symm nRu))
  rw [← hX] at r4
  replace f4 := keepof (R := p + 1) (j := 1) (u := .slice none 0 0) f4
  rw [← hX] at f4
  replace u0 := keepo (R := p + 1) (j := 1) (u := .slice none 0 0) u0 (.inr (by simp))
  rw [← hX] at u0
  replace zu0 := keepof (R := p + 1) (j := 1) (u := .slice none 0 0) zu0
  rw [← hX] at zu0
  replace u1 := cell_self (u := .slice none 0 0) u1
  rw [← hX] at u1
  replace zu1 := keepof (R := p + 1) (j := 1) (u := .slice none 0 0) zu1
  rw [← hX] at zu1
  replace v0 := keepo (R := p + 1) (j := 1) (u := .slice none 0 0) v0 (.inl (by omega))
  rw [← hX] at v0
  replace zv0 := keepof (R := p + 1) (j := 1) (u := .slice none 0 0) zv0
  rw [← hX] at zv0
  replace v1 := keepo (R := p + 1) (j := 1) (u := .slice none 0 0) v1 (.inl (by omega))
  rw [← hX] at v1
  replace zv1 := keepof (R := p + 1) (j := 1) (u := .slice none 0 0) zv1
  rw [← hX] at zv1
  replace lR := szs (a := ⟨p + 1, 1, none⟩) (u := .slice none 0 0) lR
  rw [← hX] at lR
  replace lbu := szs (a := ⟨p + 1, 1, none⟩) (u := .slice none 0 0) lbu
  rw [← hX] at lbu
  replace lbv := szs (a := ⟨p + 1, 1, none⟩) (u := .slice none 0 0) lbv
  rw [← hX] at lbv
  replace hrd := hrd.other (i := 1) (u := .slice none 0 0) ngu
  replace AP := AP.new (R := p + 1) (i := 1) (u := .slice none 0 0) (by omega) (by omega)
  rw [← hX] at hrd AP
  clear hX
  obtain ⟨X3, hX⟩ : ∃ X : World, X = X2.setCell ⟨p + 1 + 1, 0, none⟩ (.bool (sn z)) := ⟨_, rfl⟩
  rw [← hX]
  replace hN := hN.setBox (i := 0) (u := .bool (sn z)) v0 (by intro k m e; cases e)
  rw [← hX] at hN
  replace hM := hM.setBox (i := 0) (u := .bool (sn z)) v0 (by intro k m e; cases e)
  rw [← hX] at hM
  replace hZ := hZ.setBox (i := 0) (u := .bool (sn z)) v0 (by intro k m e; cases e)
  rw [← hX] at hZ
  replace h1 := h1.setBox (i := 0) (u := .bool (sn z)) v0 (by intro k m e; cases e)
  rw [← hX] at h1
  replace r0 := keepo (R := p + 1 + 1) (j := 0) (u := .bool (sn z)) r0 (.inl (Ne.symm nRv))
  rw [← hX] at r0
  replace f0 := keepof (R := p + 1 + 1) (j := 0) (u := .bool (sn z)) f0
  rw [← hX] at f0
  replace r1 := keepo (R := p + 1 + 1) (j := 0) (u := .bool (sn z)) r1 (.inl (Ne.symm nRv))
  rw [← hX] at r1
  replace f1 := keepof (R := p + 1 + 1) (j := 0) (u := .bool (sn z)) f1
  rw [← hX] at f1
  replace r2 := keepo (R := p + 1 + 1) (j := 0) (u := .bool (sn z)) r2 (.inl (Ne.symm nRv))
  rw [← hX] at r2
  replace f2 := keepof (R := p + 1 + 1) (j := 0) (u := .bool (sn z)) f2
  rw [← hX] at f2
  replace r3 := keepo (R := p + 1 + 1) (j := 0) (u := .bool (sn z)) r3 (.inl (Ne.symm nRv))
  rw [← hX] at r3
  replace f3 := keepof (R := p + 1 + 1) (j := 0) (u := .bool (sn z)) f3
  rw [← hX] at f3
  replace r4 := keepo (R := p + 1 + 1) (j := 0) (u := .bool (sn z)) r4 (.inl (Ne.symm nRv))
  rw [← hX] at r4
  replace f4 := keepof (R := p + 1 + 1) (j := 0) (u := .bool (sn z)) f4
  rw [← hX] at f4
  replace u0 := keepo (R := p + 1 + 1) (j := 0) (u := .bool (sn z)) u0 (.inl (by omega))
  rw [← hX] at u0
  replace zu0 := keepof (R := p + 1 + 1) (j := 0) (u := .bool (sn z)) zu0
  rw [← hX] at zu0
  replace u1 := keepo (R := p + 1 + 1) (j := 0) (u := .bool (sn z)) u1 (.inl (by omega))
  rw [← hX] at u1
  replace zu1 := keepof (R := p + 1 + 1) (j := 0) (u := .bool (sn z)) zu1
  rw [← hX] at zu1
  replace v0 := cell_self (u := .bool (sn z)) v0
  rw [← hX] at v0
  replace zv0 := keepof (R := p + 1 + 1) (j := 0) (u := .bool (sn z)) zv0
  rw [← hX] at zv0
  replace v1 := keepo (R := p + 1 + 1) (j := 0) (u := .bool (sn z)) v1 (.inr (by simp))
  rw [← hX] at v1
  replace zv1 := keepof (R := p + 1 + 1) (j := 0) (u := .bool (sn z)) zv1
  rw [← hX] at zv1
  replace lR := szs (a := ⟨p + 1 + 1, 0, none⟩) (u := .bool (sn z)) lR
  rw [← hX] at lR
  replace lbu := szs (a := ⟨p + 1 + 1, 0, none⟩) (u := .bool (sn z)) lbu
  rw [← hX] at lbu
  replace lbv := szs (a := ⟨p + 1 + 1, 0, none⟩) (u := .bool (sn z)) lbv
  rw [← hX] at lbv
  replace hrd := hrd.other (i := 0) (u := .bool (sn z)) ngv
  replace AP := AP.new (R := p + 1 + 1) (i := 0) (u := .bool (sn z)) (by omega) (by omega)
  rw [← hX] at hrd AP
  clear hX
  obtain ⟨X4, hX⟩ : ∃ X : World, X = X3.setCell ⟨p + 1 + 1, 1, none⟩ (.slice Z (ln (ab z)) (ln (ab z))) := ⟨_, rfl⟩
  rw [← hX]
  replace hN := hN.setBox (i := 1) (u := .slice Z (ln (ab z)) (ln (ab z))) v0 (by intro k m e; cases e)
  rw [← hX] at hN
  replace hM := hM.setBox (i := 1) (u := .slice Z (ln (ab z)) (ln (ab z))) v0 (by intro k m e; cases e)
  rw [← hX] at hM
  replace hZ := hZ.setBox (i := 1) (u := .slice Z (ln (ab z)) (ln (ab z))) v0 (by intro k m e; cases e)
  rw [← hX] at hZ
  replace h1 := h1.setBox (i := 1) (u := .slice Z (ln (ab z)) (ln (ab z))) v0 (by intro k m e; cases e)
  rw [← hX] at h1
  replace r0 := keepo (R := p + 1 + 1) (j := 1) (u := .slice Z (ln (ab z)) (ln (ab z))) r0 (.inl (Ne.symm nRv))
  rw [← hX] at r0
  replace f0 := keepof (R := p + 1 + 1) (j := 1) (u := .slice Z (ln (ab z)) (ln (ab z))) f0
  rw [← hX] at f0
  replace r1 := keepo (R := p + 1 + 1) (j := 1) (u := .slice Z (ln (ab z)) (ln (ab z))) r1 (.inl (Ne.symm nRv))
  rw [← hX] at r1
  replace f1 := keepof (R := p + 1 + 1) (j := 1) (u := .slice Z (ln (ab z)) (ln (ab z))) f1
  rw [← hX] at f1
  replace r2 := keepo (R := p + 1 + 1) (j := 1) (u := .slice Z (ln (ab z)) (ln (ab z))) r2 (.inl (Ne.symm nRv))
  rw [← hX] at r2
  replace f2 := keepof (R := p + 1 + 1) (j := 1) (u := .slice Z (ln (ab z)) (ln (ab z))) f2
  rw [← hX] at f2
  replace r3 := keepo (R := p + 1 + 1) (j := 1) (u := .slice Z (ln (ab z)) (ln (ab z))) r3 (.inl (Ne.symm nRv))
  rw [← hX] at r3
  replace f3 := keepof (R := p + 1 + 1) (j := 1) (u := .slice Z (ln (ab z)) (ln (ab z))) f3
  rw [← hX] at f3
  replace r4 := keepo (R := p + 1 + 1) (j := 1) (u := .slice Z (ln (ab z)) (ln (ab z))) r4 (.inl (Ne.symm nRv))
  rw [← hX] at r4
  replace f4 := keepof (R := p + 1 + 1) (j := 1) (u := .slice Z (ln (ab z)) (ln (ab z))) f4
  rw [← hX] at f4
  replace u0 := keepo (R := p + 1 + 1) (j := 1) (u := .slice Z (ln (ab z)) (ln (ab z))) u0 (.inl (by omega))
  rw [← hX] at u0
  replace zu0 := keepof (R := p + 1 + 1) (j := 1) (u := .slice Z (ln (ab z)) (ln (ab z))) zu0
  rw [← hX] at zu0
  replace u1 := keepo (R := p + 1 + 1) (j := 1) (u := .slice Z (ln (ab z)) (ln (ab z))) u1 (.inl (by omega))
  rw [← hX] at u1
  replace zu1 := keepof (R := p + 1 + 1) (j := 1) (u := .slice Z (ln (ab z)) (ln (ab z))) zu1
  rw [← hX] at zu1
  replace v0 := keepo (R := p + 1 + 1) (j := 1) (u := .slice Z (ln (ab z)) (ln (ab z))) v0 (.inr (by simp))
  rw [← hX] at v0
  replace zv0 := keepof (R := p + 1 + 1) (j := 1) (u := .slice Z (ln (ab z)) (ln (ab z))) zv0
  rw [← hX] at zv0
  replace v1 := cell_self (u := .slice Z (ln (ab z)) (ln (ab z))) v1
  rw [← hX] at v1
  replace zv1 := keepof (R := p + 1 + 1) (j := 1) (u := .slice Z (ln (ab z)) (ln (ab z))) zv1
  rw [← hX] at zv1
  replace lR := szs (a := ⟨p + 1 + 1, 1, none⟩) (u := .slice Z (ln (ab z)) (ln (ab z))) lR
  rw [← hX] at lR
  replace lbu := szs (a := ⟨p + 1 + 1, 1, none⟩) (u := .slice Z (ln (ab z)) (ln (ab z))) lbu
  rw [← hX] at lbu
  replace lbv := szs (a := ⟨p + 1 + 1, 1, none⟩) (u := .slice Z (ln (ab z)) (ln (ab z))) lbv
  rw [← hX] at lbv
  replace hrd := hrd.other (i := 1) (u := .slice Z (ln (ab z)) (ln (ab z))) ngv
  replace AP := AP.new (R := p + 1 + 1) (i := 1) (u := .slice Z (ln (ab z)) (ln (ab z))) (by omega) (by omega)
  rw [← hX] at hrd AP
  clear hX
  go_region_held3 (fun w' => w'.cell? ⟨p + 1, 0, none⟩ = some (.bool false) ∧ w'.cell? ⟨p + 1, 1, none⟩ = some (.slice none 0 0) ∧ w'.cell? ⟨p + 1 + 1, 0, none⟩ = some (.bool (sn z)) ∧ w'.cell? ⟨p + 1 + 1, 1, none⟩ = some (.slice Z (ln (ab z)) (ln (ab z)))) (first | with_reducible exact ⟨u0, u1, v0, v1⟩ | with_reducible exact ⟨keepd u0, keepd u1, keepd v0, keepd v1⟩ | with_reducible exact ⟨(keeps (keeps (keeps (keeps (keeps u0 nRu) nRu) nRu) nRu) nRu), (keeps (keeps (keeps (keeps (keeps u1 nRu) nRu) nRu) nRu) nRu), (keeps (keeps (keeps (keeps (keeps v0 nRv) nRv) nRv) nRv) nRv), (keeps (keeps (keeps (keeps (keeps v1 nRv) nRv) nRv) nRv) nRv)⟩) (first
    | (go_at_call_of 52 (Value.slice M (ln d) (ln d)); refine (scaled_zero x HX.out d M _ (by exact hM) (Nat.le_trans HZB.out.2.2 (by omega))).mono ?_; rintro e w5 ⟨Z2, rfl, hZ2, hb⟩; replace hb := undrew hb; have ap := Ap.of hb hrd.1; replace r0 := ap.cell r0 hRg lR; replace f0 := ap.frozen f0 hRg lR; replace r1 := ap.cell r1 hRg lR; replace f1 := ap.frozen f1 hRg lR; replace r2 := ap.cell r2 hRg lR; replace f2 := ap.frozen f2 hRg lR; replace r3 := ap.cell r3 hRg lR; replace f3 := ap.frozen f3 hRg lR; replace r4 := ap.cell r4 hRg lR; replace f4 := ap.frozen f4 hRg lR; replace u0 := ap.cell u0 ngu lbu; replace zu0 := ap.frozen zu0 ngu lbu; replace u1 := ap.cell u1 ngu lbu; replace zu1 := ap.frozen zu1 ngu lbu; replace v0 := ap.cell v0 ngv lbv; replace zv0 := ap.frozen zv0 ngv lbv; replace v1 := ap.cell v1 ngv lbv; replace zv1 := ap.frozen zv1 ngv lbv; replace hN := ap.nat hrd hN; replace hM := ap.nat hrd hM; replace hZ := ap.nat hrd hZ; replace h1 := ap.nat hrd h1; replace lR := Nat.lt_of_lt_of_le lR ap.1.size; replace lbu := Nat.lt_of_lt_of_le lbu ap.1.size; replace lbv := Nat.lt_of_lt_of_le lbv ap.1.size; replace AP := AP.trans ap; replace hrd := hrd.to hb; clear ap hb)
    | (go_at_call_of 52 (Value.slice Z (ln (ab z)) (ln (ab z))); refine (scaled_one z Z (some ⟨p, 0, none⟩) _ (by exact hZ) (by exact h1) (Nat.le_trans HZB.out.1 (by omega))).mono ?_; rintro e w6 ⟨Z1, rfl, hZ1, hb⟩; have ap := Ap.of hb hrd.1; replace r0 := ap.cell r0 hRg lR; replace f0 := ap.frozen f0 hRg lR; replace r1 := ap.cell r1 hRg lR; replace f1 := ap.frozen f1 hRg lR; replace r2 := ap.cell r2 hRg lR; replace f2 := ap.frozen f2 hRg lR; replace r3 := ap.cell r3 hRg lR; replace f3 := ap.frozen f3 hRg lR; replace r4 := ap.cell r4 hRg lR; replace f4 := ap.frozen f4 hRg lR; replace u0 := ap.cell u0 ngu lbu; replace zu0 := ap.frozen zu0 ngu lbu; replace u1 := ap.cell u1 ngu lbu; replace zu1 := ap.frozen zu1 ngu lbu; replace v0 := ap.cell v0 ngv lbv; replace zv0 := ap.frozen zv0 ngv lbv; replace v1 := ap.cell v1 ngv lbv; replace zv1 := ap.frozen zv1 ngv lbv; replace hN := ap.nat hrd hN; replace hM := ap.nat hrd hM; replace hZ := ap.nat hrd hZ; replace h1 := ap.nat hrd h1; replace hZ2 := ap.nat hrd hZ2; replace lR := Nat.lt_of_lt_of_le lR ap.1.size; replace lbu := Nat.lt_of_lt_of_le lbu ap.1.size; replace lbv := Nat.lt_of_lt_of_le lbv ap.1.size; replace AP := AP.trans ap; replace hrd := hrd.to hb; clear ap hb)
    | (go_at_call 54; refine (one_mul' d M (some ⟨p, 0, none⟩) _ (by exact hM) (by exact h1) (Nat.le_trans HZB.out.2.2 (by omega))).mono ?_; rintro e w7 ⟨Z3, rfl, hZ3, hb⟩; have ap := Ap.of hb hrd.1; replace r0 := ap.cell r0 hRg lR; replace f0 := ap.frozen f0 hRg lR; replace r1 := ap.cell r1 hRg lR; replace f1 := ap.frozen f1 hRg lR; replace r2 := ap.cell r2 hRg lR; replace f2 := ap.frozen f2 hRg lR; replace r3 := ap.cell r3 hRg lR; replace f3 := ap.frozen f3 hRg lR; replace r4 := ap.cell r4 hRg lR; replace f4 := ap.frozen f4 hRg lR; replace u0 := ap.cell u0 ngu lbu; replace zu0 := ap.frozen zu0 ngu lbu; replace u1 := ap.cell u1 ngu lbu; replace zu1 := ap.frozen zu1 ngu lbu; replace v0 := ap.cell v0 ngv lbv; replace zv0 := ap.frozen zv0 ngv lbv; replace v1 := ap.cell v1 ngv lbv; replace zv1 := ap.frozen zv1 ngv lbv; replace hN := ap.nat hrd hN; replace hM := ap.nat hrd hM; replace hZ := ap.nat hrd hZ; replace h1 := ap.nat hrd h1; replace hZ2 := ap.nat hrd hZ2; replace hZ1 := ap.nat hrd hZ1; replace lR := Nat.lt_of_lt_of_le lR ap.1.size; replace lbu := Nat.lt_of_lt_of_le lbu ap.1.size; replace lbv := Nat.lt_of_lt_of_le lbv ap.1.size; replace AP := AP.trans ap; replace hrd := hrd.to hb; clear ap hb)
    | (go_at_call 44; refine (over_any x z d Z2 Z1 Z3 _ (by exact hZ2) (by exact hZ1) (by exact hZ3) (by rw [HX.out]; show ln 0 ≤ _; rw [ln_zero]; omega) (by have := HZB.out.1; omega) (by have := HZB.out.2.2; omega) H0.out).mono ?_; rintro e w8 ⟨Q1, Q2, Q3, rfl, hQ, hb⟩; have ap := Ap.of hb hrd.1; replace r0 := ap.cell r0 hRg lR; replace f0 := ap.frozen f0 hRg lR; replace r1 := ap.cell r1 hRg lR; replace f1 := ap.frozen f1 hRg lR; replace r2 := ap.cell r2 hRg lR; replace f2 := ap.frozen f2 hRg lR; replace r3 := ap.cell r3 hRg lR; replace f3 := ap.frozen f3 hRg lR; replace r4 := ap.cell r4 hRg lR; replace f4 := ap.frozen f4 hRg lR; replace u0 := ap.cell u0 ngu lbu; replace zu0 := ap.frozen zu0 ngu lbu; replace u1 := ap.cell u1 ngu lbu; replace zu1 := ap.frozen zu1 ngu lbu; replace v0 := ap.cell v0 ngv lbv; replace zv0 := ap.frozen zv0 ngv lbv; replace v1 := ap.cell v1 ngv lbv; replace zv1 := ap.frozen zv1 ngv lbv; replace hN := ap.nat hrd hN; replace hM := ap.nat hrd hM; replace hZ := ap.nat hrd hZ; replace h1 := ap.nat hrd h1; replace hZ2 := ap.nat hrd hZ2; replace hZ1 := ap.nat hrd hZ1; replace hZ3 := ap.nat hrd hZ3; replace lR := Nat.lt_of_lt_of_le lR ap.1.size; replace lbu := Nat.lt_of_lt_of_le lbu ap.1.size; replace lbv := Nat.lt_of_lt_of_le lbv ap.1.size; replace AP := AP.trans ap; replace hrd := hrd.to hb; clear ap hb))
  go_wp2_with fail
  replace HW := Lib.hid (HW.trans (AP.1.mono hgR))
  exact bodyPost_ret (v := .tuple #[.agg #[.bool (sn (na (fr x z d))), .slice Q1 (ln (ab (na (fr x z d)))) (ln (ab (na (fr x z d)))), .bool (sn (nb (fr x z d))), .slice Q2 (ln (ab (nb (fr x z d)))) (ln (ab (nb (fr x z d)))), .slice Q3 (ln (un (fr x z d))) (ln (un (fr x z d)))], .int .i64 0]) (by simp [results, Try.results33, go_sem, r0, r1, r2, r3, r4, f0, f1, f2, f3, f4]) rfl (retNumE_fin HW hQ (by omega) r0)

end Go.Proofs.Ytapmhidddgicfaa

namespace Go.Proofs.Ytapmhidddgicfaa
open Go.RowKit Pl
set_option linter.unusedVariables false
set_option linter.unusedSimpArgs false

theorem nmg_sign {c : UInt8} (h : c = 45 ∨ c = 43) (t : List UInt8) : nmg (c :: t) := fun x hx => by
  simp at hx; subst hx
  rcases h with rfl | rfl
  · exact ⟨rfl, by decide, by decide, by decide⟩
  · exact ⟨rfl, by decide, by decide, by decide⟩
theorem scaled_to (x a : Int) (n : Nat) (h0 : x = a * (n : Int)) (A B : Option Addr) (w : World) (hx : Nat32 w A (ab a)) (hy : Nat32 w B n) (hbx : ln (ab a) ≤ 1099511627776) (hby : ln n ≤ 1099511627776) :
    Calls Try.prog 52 #[.agg #[.bool (sn a), .slice A (ln (ab a)) (ln (ab a))], .slice B (ln n) (ln n)] w (RetWhole w x) := by
  subst h0; exact scaled_any a n A B w hx hy hbx hby
theorem mul_to (m x y : Nat) (h0 : m = x * y) (A B : Option Addr) (w : World) (hx : Nat32 w A x) (hy : Nat32 w B y) (hbx : ln x ≤ 35184372088832) (hby : ln y ≤ 35184372088832) :
    Calls Try.prog 54 #[.slice A (ln x) (ln x), .slice B (ln y) (ln y)] w (RetNat w m) := by
  subst h0; exact mul_any x y A B w hx hy hbx hby

set_option maxHeartbeats 4000000 in
theorem parse_two_true (neg : Bool) (n d : Nat) (l : List UInt8) (w : World) (hl : magL n d l) (n2 e : Nat) (k : List UInt8) (hk : magL n2 e k) (hs : (sgL neg ++ (l ++ 45 :: (k ++ [105]))).length ≤ 4096) (hd0 : d ≠ 0) (he0 : e ≠ 0) (x y : Int) (m : Nat) (hx : x = zi neg n * (e : Int)) (hy : y = zi true n2 * (d : Int)) (hm : m = d * e) :
    Calls Try.prog 33 #[.string (bs (sgL neg ++ (l ++ 45 :: (k ++ [105]))))] w (RetNumE w 0 (fr x y m)) := by
  have HS := Lib.hid hs
  have HL := Lib.hid hl
  have HK := Lib.hid hk
  have H0 := Lib.hid hd0
  have HE := Lib.hid he0
  have HX := Lib.hid hx
  have HY := Lib.hid hy
  have HM := Lib.hid hm
  clear hs hl hk hd0 he0 hx hy hm
  go_enter Try.func33, Try.ntmps33
  have tl : decide (4096 < ((bs (sgL neg ++ (l ++ 45 :: (k ++ [105])))).size : Int)) = false := by rw [bs_size, decide_eq_false_iff_not]; have := HS.out; omega
  go_wp2_with fail
  obtain ⟨W, hW⟩ : ∃ W : World, W = (w.alloc (.cells #[.bool false, .slice none 0 0, .bool false, .slice none 0 0, .slice none 0 0] 27)).alloc (.cells #[.string (bs (sgL neg ++ (l ++ 45 :: (k ++ [105])))), .bool false] 106) := ⟨_, rfl⟩
  rw [← hW]
  have r0 : W.cell? ⟨w.heap.size, 0, none⟩ = some (.bool false) := by subst hW; go_simp
  have f0 : W.frozen? ⟨w.heap.size, 0, none⟩ = false := by subst hW; go_simp
  have r1 : W.cell? ⟨w.heap.size, 1, none⟩ = some (.slice none 0 0) := by subst hW; go_simp
  have f1 : W.frozen? ⟨w.heap.size, 1, none⟩ = false := by subst hW; go_simp
  have r2 : W.cell? ⟨w.heap.size, 2, none⟩ = some (.bool false) := by subst hW; go_simp
  have f2 : W.frozen? ⟨w.heap.size, 2, none⟩ = false := by subst hW; go_simp
  have r3 : W.cell? ⟨w.heap.size, 3, none⟩ = some (.slice none 0 0) := by subst hW; go_simp
  have f3 : W.frozen? ⟨w.heap.size, 3, none⟩ = false := by subst hW; go_simp
  have r4 : W.cell? ⟨w.heap.size, 4, none⟩ = some (.slice none 0 0) := by subst hW; go_simp
  have f4 : W.frozen? ⟨w.heap.size, 4, none⟩ = false := by subst hW; go_simp
  have hrd : Rd W (w.heap.size + 1) (bs (sgL neg ++ (l ++ 45 :: (k ++ [105])))) false := by subst hW; exact ⟨by simp, by go_simp, by go_simp, by go_simp, by go_simp⟩
  have HW : Below w.heap.size w W := by subst hW; exact ((Below.refl _ _).alloc (Nat.le_refl _) _).alloc (by simp) _
  have lR : w.heap.size < W.heap.size := by subst hW; simp; omega
  clear hW tl
  have hRg : w.heap.size ≠ w.heap.size + 1 := by omega
  have AP : Ap (w.heap.size + 1) W W := Ap.refl _ _
  have hgR : w.heap.size ≤ w.heap.size + 1 := by omega
  generalize w.heap.size + 1 = g at *
  refine (take_sign neg (l ++ (45 :: (k ++ [105]))) g _ hrd (fun x hx => mag_head HL.out (45 :: (k ++ [105])) x hx)).mono ?_
  rintro e w1 ⟨rfl, hn, ap⟩
  replace r0 := ap.cell r0 hRg lR
  replace f0 := ap.frozen f0 hRg lR
  replace r1 := ap.cell r1 hRg lR
  replace f1 := ap.frozen f1 hRg lR
  replace r2 := ap.cell r2 hRg lR
  replace f2 := ap.frozen f2 hRg lR
  replace r3 := ap.cell r3 hRg lR
  replace f3 := ap.frozen f3 hRg lR
  replace r4 := ap.cell r4 hRg lR
  replace f4 := ap.frozen f4 hRg lR
  replace lR := Nat.lt_of_lt_of_le lR ap.1.size
  replace AP := AP.trans ap
  replace hrd := hn
  clear ap
  go_wp2_with fail
  refine (mag_any (45 :: (k ++ [105])) g _ HL.out hrd (by have := HS.out; simp at this ⊢; omega) (nmg_sign (by decide) _)).mono ?_
  rintro e w2 ⟨N, M, rfl, hN, hM, hn, ap⟩
  replace r0 := ap.cell r0 hRg lR
  replace f0 := ap.frozen f0 hRg lR
  replace r1 := ap.cell r1 hRg lR
  replace f1 := ap.frozen f1 hRg lR
  replace r2 := ap.cell r2 hRg lR
  replace f2 := ap.frozen f2 hRg lR
  replace r3 := ap.cell r3 hRg lR
  replace f3 := ap.frozen f3 hRg lR
  replace r4 := ap.cell r4 hRg lR
  replace f4 := ap.frozen f4 hRg lR
  replace lR := Nat.lt_of_lt_of_le lR ap.1.size
  replace AP := AP.trans ap
  replace hrd := hn
  clear ap
  go_wp2_with fail
  refine (wholeOf_any neg n N _ (by exact hN)).mono ?_
  rintro e w3 ⟨Z, rfl, hZ, hb⟩
  have ap := Ap.of hb hrd.1
  replace r0 := ap.cell r0 hRg lR
  replace f0 := ap.frozen f0 hRg lR
  replace r1 := ap.cell r1 hRg lR
  replace f1 := ap.frozen f1 hRg lR
  replace r2 := ap.cell r2 hRg lR
  replace f2 := ap.frozen f2 hRg lR
  replace r3 := ap.cell r3 hRg lR
  replace f3 := ap.frozen f3 hRg lR
  replace r4 := ap.cell r4 hRg lR
  replace f4 := ap.frozen f4 hRg lR
  replace hN := ap.nat hrd hN
  replace hM := ap.nat hrd hM
  replace lR := Nat.lt_of_lt_of_le lR ap.1.size
  replace AP := AP.trans ap
  replace hrd := hrd.to hb
  clear ap hb
  go_wp2_with fail
  have HZB : Hid (ln (ab (zi neg n)) ≤ 4096 ∧ ln n ≤ 4096 ∧ ln d ≤ 4096) := Lib.hid (mag_bound HL.out neg (45 :: (k ++ [105])) HS.out)
  generalize zi neg n = z at *
  obtain ⟨X, hX⟩ : ∃ X : World, X = (((w3.alloc (.cells #[.int .u32 1] 84)).alloc (.cells #[.bool (sn (z)), .slice Z (ln (ab (z))) (ln (ab (z)))] 25)).alloc (.cells #[.bool false, .slice none 0 0] 25)) := ⟨_, rfl⟩
  rw [← hX]
  have hb : Below w3.heap.size w3 X := by subst hX; exact (((Below.refl _ _).alloc (Nat.le_refl _) _).alloc (by simp) _).alloc (by simp; omega) _
  have h1 : Nat32 X (some ⟨w3.heap.size, 0, none⟩) 1 := by subst hX; exact ((nat1_new _ _).alloc _).alloc _
  have u0 : X.cell? ⟨w3.heap.size + 1, 0, none⟩ = some (.bool (sn (z))) := by subst hX; go_simp
  have zu0 : X.frozen? ⟨w3.heap.size + 1, 0, none⟩ = false := by subst hX; go_simp
  have u1 : X.cell? ⟨w3.heap.size + 1, 1, none⟩ = some (.slice Z (ln (ab (z))) (ln (ab (z)))) := by subst hX; go_simp
  have zu1 : X.frozen? ⟨w3.heap.size + 1, 1, none⟩ = false := by subst hX; go_simp
  have lbu : w3.heap.size + 1 < X.heap.size := by subst hX; simp <;> omega
  have ngu : w3.heap.size + 1 ≠ g := by have := hrd.1; omega
  have nRu : w3.heap.size + 1 ≠ w.heap.size := by have := lR; omega
  have v0 : X.cell? ⟨w3.heap.size + 1 + 1, 0, none⟩ = some (.bool false) := by subst hX; go_simp
  have zv0 : X.frozen? ⟨w3.heap.size + 1 + 1, 0, none⟩ = false := by subst hX; go_simp
  have v1 : X.cell? ⟨w3.heap.size + 1 + 1, 1, none⟩ = some (.slice none 0 0) := by subst hX; go_simp
  have zv1 : X.frozen? ⟨w3.heap.size + 1 + 1, 1, none⟩ = false := by subst hX; go_simp
  have lbv : w3.heap.size + 1 + 1 < X.heap.size := by subst hX; simp <;> omega
  have ngv : w3.heap.size + 1 + 1 ≠ g := by have := hrd.1; omega
  have nRv : w3.heap.size + 1 + 1 ≠ w.heap.size := by have := lR; omega
  clear hX
  have hWp : W.heap.size ≤ w3.heap.size := AP.1.size
  have hgp : g ≤ w3.heap.size := Nat.le_of_lt hrd.1
  have ap := Ap.of hb hrd.1
  replace r0 := ap.cell r0 hRg lR
  replace f0 := ap.frozen f0 hRg lR
  replace r1 := ap.cell r1 hRg lR
  replace f1 := ap.frozen f1 hRg lR
  replace r2 := ap.cell r2 hRg lR
  replace f2 := ap.frozen f2 hRg lR
  replace r3 := ap.cell r3 hRg lR
  replace f3 := ap.frozen f3 hRg lR
  replace r4 := ap.cell r4 hRg lR
  replace f4 := ap.frozen f4 hRg lR
  replace hN := ap.nat hrd hN
  replace hM := ap.nat hrd hM
  replace hZ := ap.nat hrd hZ
  replace lR := Nat.lt_of_lt_of_le lR ap.1.size
  replace AP := AP.trans ap
  replace hrd := hrd.to hb
  clear ap hb
  generalize w3.heap.size = p at *
  refine (take_miss 105 (45 :: (k ++ [105])) g false _ hrd (fun x hx => by simp at hx; subst hx; decide)).mono ?_
  rintro e w4 ⟨rfl, hn, ap⟩
  replace r0 := ap.cell r0 hRg lR
  replace f0 := ap.frozen f0 hRg lR
  replace r1 := ap.cell r1 hRg lR
  replace f1 := ap.frozen f1 hRg lR
  replace r2 := ap.cell r2 hRg lR
  replace f2 := ap.frozen f2 hRg lR
  replace r3 := ap.cell r3 hRg lR
  replace f3 := ap.frozen f3 hRg lR
  replace r4 := ap.cell r4 hRg lR
  replace f4 := ap.frozen f4 hRg lR
  replace u0 := ap.cell u0 ngu lbu
  replace zu0 := ap.frozen zu0 ngu lbu
  replace u1 := ap.cell u1 ngu lbu
  replace zu1 := ap.frozen zu1 ngu lbu
  replace v0 := ap.cell v0 ngv lbv
  replace zv0 := ap.frozen zv0 ngv lbv
  replace v1 := ap.cell v1 ngv lbv
  replace zv1 := ap.frozen zv1 ngv lbv
  replace hN := ap.nat hrd hN
  replace hM := ap.nat hrd hM
  replace hZ := ap.nat hrd hZ
  replace h1 := ap.nat hrd h1
  replace lR := Nat.lt_of_lt_of_le lR ap.1.size
  replace lbu := Nat.lt_of_lt_of_le lbu ap.1.size
  replace lbv := Nat.lt_of_lt_of_le lbv ap.1.size
  replace AP := AP.trans ap
  replace hrd := hn
  clear ap
  have q0 := hrd.2.1
  have t1 : decide (0 < ((bs (45 :: (k ++ [105]))).size : Int)) = true := by rw [bs_size]; simp; omega
  have t2 : decide (0 < (bs (45 :: (k ++ [105]))).size) = true := by rw [bs_size]; simp
  go_wp2_with fail
  clear q0 t1 t2
  refine (take_hit 45 (k ++ [105]) g false _ hrd).mono ?_
  rintro e w5 ⟨rfl, hn, ap⟩
  replace r0 := ap.cell r0 hRg lR
  replace f0 := ap.frozen f0 hRg lR
  replace r1 := ap.cell r1 hRg lR
  replace f1 := ap.frozen f1 hRg lR
  replace r2 := ap.cell r2 hRg lR
  replace f2 := ap.frozen f2 hRg lR
  replace r3 := ap.cell r3 hRg lR
  replace f3 := ap.frozen f3 hRg lR
  replace r4 := ap.cell r4 hRg lR
  replace f4 := ap.frozen f4 hRg lR
  replace u0 := ap.cell u0 ngu lbu
  replace zu0 := ap.frozen zu0 ngu lbu
  replace u1 := ap.cell u1 ngu lbu
  replace zu1 := ap.frozen zu1 ngu lbu
  replace v0 := ap.cell v0 ngv lbv
  replace zv0 := ap.frozen zv0 ngv lbv
  replace v1 := ap.cell v1 ngv lbv
  replace zv1 := ap.frozen zv1 ngv lbv
  replace hN := ap.nat hrd hN
  replace hM := ap.nat hrd hM
  replace hZ := ap.nat hrd hZ
  replace h1 := ap.nat hrd h1
  replace lR := Nat.lt_of_lt_of_le lR ap.1.size
  replace lbu := Nat.lt_of_lt_of_le lbu ap.1.size
  replace lbv := Nat.lt_of_lt_of_le lbv ap.1.size
  replace AP := AP.trans ap
  replace hrd := hn
  clear ap
  go_wp2_with fail
  refine (mag_any [105] g _ HK.out hrd (by have := HS.out; simp at this ⊢; omega) nmg_i).mono ?_
  rintro e w6 ⟨N2, E, rfl, hN2, hE, hn, ap⟩
  replace r0 := ap.cell r0 hRg lR
  replace f0 := ap.frozen f0 hRg lR
  replace r1 := ap.cell r1 hRg lR
  replace f1 := ap.frozen f1 hRg lR
  replace r2 := ap.cell r2 hRg lR
  replace f2 := ap.frozen f2 hRg lR
  replace r3 := ap.cell r3 hRg lR
  replace f3 := ap.frozen f3 hRg lR
  replace r4 := ap.cell r4 hRg lR
  replace f4 := ap.frozen f4 hRg lR
  replace u0 := ap.cell u0 ngu lbu
  replace zu0 := ap.frozen zu0 ngu lbu
  replace u1 := ap.cell u1 ngu lbu
  replace zu1 := ap.frozen zu1 ngu lbu
  replace v0 := ap.cell v0 ngv lbv
  replace zv0 := ap.frozen zv0 ngv lbv
  replace v1 := ap.cell v1 ngv lbv
  replace zv1 := ap.frozen zv1 ngv lbv
  replace hN := ap.nat hrd hN
  replace hM := ap.nat hrd hM
  replace hZ := ap.nat hrd hZ
  replace h1 := ap.nat hrd h1
  replace lR := Nat.lt_of_lt_of_le lR ap.1.size
  replace lbu := Nat.lt_of_lt_of_le lbu ap.1.size
  replace lbv := Nat.lt_of_lt_of_le lbv ap.1.size
  replace AP := AP.trans ap
  replace hrd := hn
  clear ap
  go_wp2_with fail
  refine (wholeOf_any true n2 N2 _ (by exact hN2)).mono ?_
  rintro e w7 ⟨Y, rfl, hY, hb⟩
  have ap := Ap.of hb hrd.1
  replace r0 := ap.cell r0 hRg lR
  replace f0 := ap.frozen f0 hRg lR
  replace r1 := ap.cell r1 hRg lR
  replace f1 := ap.frozen f1 hRg lR
  replace r2 := ap.cell r2 hRg lR
  replace f2 := ap.frozen f2 hRg lR
  replace r3 := ap.cell r3 hRg lR
  replace f3 := ap.frozen f3 hRg lR
  replace r4 := ap.cell r4 hRg lR
  replace f4 := ap.frozen f4 hRg lR
  replace u0 := ap.cell u0 ngu lbu
  replace zu0 := ap.frozen zu0 ngu lbu
  replace u1 := ap.cell u1 ngu lbu
  replace zu1 := ap.frozen zu1 ngu lbu
  replace v0 := ap.cell v0 ngv lbv
  replace zv0 := ap.frozen zv0 ngv lbv
  replace v1 := ap.cell v1 ngv lbv
  replace zv1 := ap.frozen zv1 ngv lbv
  replace hN := ap.nat hrd hN
  replace hM := ap.nat hrd hM
  replace hZ := ap.nat hrd hZ
  replace h1 := ap.nat hrd h1
  replace hN2 := ap.nat hrd hN2
  replace hE := ap.nat hrd hE
  replace lR := Nat.lt_of_lt_of_le lR ap.1.size
  replace lbu := Nat.lt_of_lt_of_le lbu ap.1.size
  replace lbv := Nat.lt_of_lt_of_le lbv ap.1.size
  replace AP := AP.trans ap
  replace hrd := hrd.to hb
  clear ap hb
  go_wp2_with fail
  have HYB : Hid (ln (ab (zi true n2)) ≤ 4096 ∧ ln n2 ≤ 4096 ∧ ln e ≤ 4096) := Lib.hid (mag_bound HK.out true [105] (by have := HS.out; simp [sgL] at this ⊢; omega))
  generalize zi true n2 = z2 at *
  obtain ⟨X1, hX⟩ : ∃ X : World, X = w7.setCell ⟨p + 1 + 1, 0, none⟩ (.bool (sn z2)) := ⟨_, rfl⟩
  rw [← hX]
  replace hN := hN.setBox (i := 0) (u := .bool (sn z2)) v0 (by intro k m e; cases e)
  rw [← hX] at hN
  replace hM := hM.setBox (i := 0) (u := .bool (sn z2)) v0 (by intro k m e; cases e)
  rw [← hX] at hM
  replace hZ := hZ.setBox (i := 0) (u := .bool (sn z2)) v0 (by intro k m e; cases e)
  rw [← hX] at hZ
  replace h1 := h1.setBox (i := 0) (u := .bool (sn z2)) v0 (by intro k m e; cases e)
  rw [← hX] at h1
  replace hN2 := hN2.setBox (i := 0) (u := .bool (sn z2)) v0 (by intro k m e; cases e)
  rw [← hX] at hN2
  replace hE := hE.setBox (i := 0) (u := .bool (sn z2)) v0 (by intro k m e; cases e)
  rw [← hX] at hE
  replace hY := hY.setBox (i := 0) (u := .bool (sn z2)) v0 (by intro k m e; cases e)
  rw [← hX] at hY
  replace r0 := keepo (R := p + 1 + 1) (j := 0) (u := .bool (sn z2)) r0 (.inl (Ne.symm nRv))
  rw [← hX] at r0
  replace f0 := keepof (R := p + 1 + 1) (j := 0) (u := .bool (sn z2)) f0
  rw [← hX] at f0
  replace r1 := keepo (R := p + 1 + 1) (j := 0) (u := .bool (sn z2)) r1 (.inl (Ne.symm nRv))
  rw [← hX] at r1
  replace f1 := keepof (R := p + 1 + 1) (j := 0) (u := .bool (sn z2)) f1
  rw [← hX] at f1
  replace r2 := keepo (R := p + 1 + 1) (j := 0) (u := .bool (sn z2)) r2 (.inl (Ne.symm nRv))
  rw [← hX] at r2
  replace f2 := keepof (R := p + 1 + 1) (j := 0) (u := .bool (sn z2)) f2
  rw [← hX] at f2
  replace r3 := keepo (R := p + 1 + 1) (j := 0) (u := .bool (sn z2)) r3 (.inl (Ne.symm nRv))
  rw [← hX] at r3
  replace f3 := keepof (R := p + 1 + 1) (j := 0) (u := .bool (sn z2)) f3
  rw [← hX] at f3
  replace r4 := keepo (R := p + 1 + 1) (j := 0) (u := .bool (sn z2)) r4 (.inl (Ne.symm nRv))
  rw [← hX] at r4
  replace f4 := keepof (R := p + 1 + 1) (j := 0) (u := .bool (sn z2)) f4
  rw [← hX] at f4
  replace u0 := keepo (R := p + 1 + 1) (j := 0) (u := .bool (sn z2)) u0 (.inl (by omega))
  rw [← hX] at u0
  replace zu0 := keepof (R := p + 1 + 1) (j := 0) (u := .bool (sn z2)) zu0
  rw [← hX] at zu0
  replace u1 := keepo (R := p + 1 + 1) (j := 0) (u := .bool (sn z2)) u1 (.inl (by omega))
  rw [← hX] at u1
  replace zu1 := keepof (R := p + 1 + 1) (j := 0) (u := .bool (sn z2)) zu1
  rw [← hX] at zu1
  replace v0 := cell_self (u := .bool (sn z2)) v0
  rw [← hX] at v0
  replace zv0 := keepof (R := p + 1 + 1) (j := 0) (u := .bool (sn z2)) zv0
  rw [← hX] at zv0
  replace v1 := keepo (R := p + 1 + 1) (j := 0) (u := .bool (sn z2)) v1 (.inr (by simp))
  rw [← hX] at v1
  replace zv1 := keepof (R := p + 1 + 1) (j := 0) (u := .bool (sn z2)) zv1
  rw [← hX] at zv1
  replace lR := szs (a := ⟨p + 1 + 1, 0, none⟩) (u := .bool (sn z2)) lR
  rw [← hX] at lR
  replace lbu := szs (a := ⟨p + 1 + 1, 0, none⟩) (u := .bool (sn z2)) lbu
  rw [← hX] at lbu
  replace lbv := szs (a := ⟨p + 1 + 1, 0, none⟩) (u := .bool (sn z2)) lbv
  rw [← hX] at lbv
  replace hrd := hrd.other (i := 0) (u := .bool (sn z2)) ngv
  replace AP := AP.new (R := p + 1 + 1) (i := 0) (u := .bool (sn z2)) (by omega) (by omega)
  rw [← hX] at hrd AP
  clear hX
  obtain ⟨X2, hX⟩ : ∃ X : World, X = X1.setCell ⟨p + 1 + 1, 1, none⟩ (.slice Y (ln (ab z2)) (ln (ab z2))) := ⟨_, rfl⟩
  rw [← hX]
  replace hN := hN.setBox (i := 1) (u := .slice Y (ln (ab z2)) (ln (ab z2))) v0 (by intro k m e; cases e)
  rw [← hX] at hN
  replace hM := hM.setBox (i := 1) (u := .slice Y (ln (ab z2)) (ln (ab z2))) v0 (by intro k m e; cases e)
  rw [← hX] at hM
  replace hZ := hZ.setBox (i := 1) (u := .slice Y (ln (ab z2)) (ln (ab z2))) v0 (by intro k m e; cases e)
  rw [← hX] at hZ
  replace h1 := h1.setBox (i := 1) (u := .slice Y (ln (ab z2)) (ln (ab z2))) v0 (by intro k m e; cases e)
  rw [← hX] at h1
  replace hN2 := hN2.setBox (i := 1) (u := .slice Y (ln (ab z2)) (ln (ab z2))) v0 (by intro k m e; cases e)
  rw [← hX] at hN2
  replace hE := hE.setBox (i := 1) (u := .slice Y (ln (ab z2)) (ln (ab z2))) v0 (by intro k m e; cases e)
  rw [← hX] at hE
  replace hY := hY.setBox (i := 1) (u := .slice Y (ln (ab z2)) (ln (ab z2))) v0 (by intro k m e; cases e)
  rw [← hX] at hY
  replace r0 := keepo (R := p + 1 + 1) (j := 1) (u := .slice Y (ln (ab z2)) (ln (ab z2))) r0 (.inl (Ne.symm nRv))
  rw [← hX] at r0
  replace f0 := keepof (R := p + 1 + 1) (j := 1) (u := .slice Y (ln (ab z2)) (ln (ab z2))) f0
  rw [← hX] at f0
  replace r1 := keepo (R := p + 1 + 1) (j := 1) (u := .slice Y (ln (ab z2)) (ln (ab z2))) r1 (.inl (Ne.symm nRv))
  rw [← hX] at r1
  replace f1 := keepof (R := p + 1 + 1) (j := 1) (u := .slice Y (ln (ab z2)) (ln (ab z2))) f1
  rw [← hX] at f1
  replace r2 := keepo (R := p + 1 + 1) (j := 1) (u := .slice Y (ln (ab z2)) (ln (ab z2))) r2 (.inl (Ne.symm nRv))
  rw [← hX] at r2
  replace f2 := keepof (R := p + 1 + 1) (j := 1) (u := .slice Y (ln (ab z2)) (ln (ab z2))) f2
  rw [← hX] at f2
  replace r3 := keepo (R := p + 1 + 1) (j := 1) (u := .slice Y (ln (ab z2)) (ln (ab z2))) r3 (.inl (Ne.symm nRv))
  rw [← hX] at r3
  replace f3 := keepof (R := p + 1 + 1) (j := 1) (u := .slice Y (ln (ab z2)) (ln (ab z2))) f3
  rw [← hX] at f3
  replace r4 := keepo (R := p + 1 + 1) (j := 1) (u := .slice Y (ln (ab z2)) (ln (ab z2))) r4 (.inl (Ne.symm nRv))
  rw [← hX] at r4
  replace f4 := keepof (R := p + 1 + 1) (j := 1) (u := .slice Y (ln (ab z2)) (ln (ab z2))) f4
  rw [← hX] at f4
  replace u0 := keepo (R := p + 1 + 1) (j := 1) (u := .slice Y (ln (ab z2)) (ln (ab z2))) u0 (.inl (by omega))
  rw [← hX] at u0
  replace zu0 := keepof (R := p + 1 + 1) (j := 1) (u := .slice Y (ln (ab z2)) (ln (ab z2))) zu0
  rw [← hX] at zu0
  replace u1 := keepo (R := p + 1 + 1) (j := 1) (u := .slice Y (ln (ab z2)) (ln (ab z2))) u1 (.inl (by omega))
  rw [← hX] at u1
  replace zu1 := keepof (R := p + 1 + 1) (j := 1) (u := .slice Y (ln (ab z2)) (ln (ab z2))) zu1
  rw [← hX] at zu1
  replace v0 := keepo (R := p + 1 + 1) (j := 1) (u := .slice Y (ln (ab z2)) (ln (ab z2))) v0 (.inr (by simp))
  rw [← hX] at v0
  replace zv0 := keepof (R := p + 1 + 1) (j := 1) (u := .slice Y (ln (ab z2)) (ln (ab z2))) zv0
  rw [← hX] at zv0
  replace v1 := cell_self (u := .slice Y (ln (ab z2)) (ln (ab z2))) v1
  rw [← hX] at v1
  replace zv1 := keepof (R := p + 1 + 1) (j := 1) (u := .slice Y (ln (ab z2)) (ln (ab z2))) zv1
  rw [← hX] at zv1
  replace lR := szs (a := ⟨p + 1 + 1, 1, none⟩) (u := .slice Y (ln (ab z2)) (ln (ab z2))) lR
  rw [← hX] at lR
  replace lbu := szs (a := ⟨p + 1 + 1, 1, none⟩) (u := .slice Y (ln (ab z2)) (ln (ab z2))) lbu
  rw [← hX] at lbu
  replace lbv := szs (a := ⟨p + 1 + 1, 1, none⟩) (u := .slice Y (ln (ab z2)) (ln (ab z2))) lbv
  rw [← hX] at lbv
  replace hrd := hrd.other (i := 1) (u := .slice Y (ln (ab z2)) (ln (ab z2))) ngv
  replace AP := AP.new (R := p + 1 + 1) (i := 1) (u := .slice Y (ln (ab z2)) (ln (ab z2))) (by omega) (by omega)
  rw [← hX] at hrd AP
  clear hX
  refine (take_hit 105 [] g false _ hrd).mono ?_
  rintro e w8 ⟨rfl, hn, ap⟩
  replace r0 := ap.cell r0 hRg lR
  replace f0 := ap.frozen f0 hRg lR
  replace r1 := ap.cell r1 hRg lR
  replace f1 := ap.frozen f1 hRg lR
  replace r2 := ap.cell r2 hRg lR
  replace f2 := ap.frozen f2 hRg lR
  replace r3 := ap.cell r3 hRg lR
  replace f3 := ap.frozen f3 hRg lR
  replace r4 := ap.cell r4 hRg lR
  replace f4 := ap.frozen f4 hRg lR
  replace u0 := ap.cell u0 ngu lbu
  replace zu0 := ap.frozen zu0 ngu lbu
  replace u1 := ap.cell u1 ngu lbu
  replace zu1 := ap.frozen zu1 ngu lbu
  replace v0 := ap.cell v0 ngv lbv
  replace zv0 := ap.frozen zv0 ngv lbv
  replace v1 := ap.cell v1 ngv lbv
  replace zv1 := ap.frozen zv1 ngv lbv
  replace hN := ap.nat hrd hN
  replace hM := ap.nat hrd hM
  replace hZ := ap.nat hrd hZ
  replace h1 := ap.nat hrd h1
  replace hN2 := ap.nat hrd hN2
  replace hE := ap.nat hrd hE
  replace hY := ap.nat hrd hY
  replace lR := Nat.lt_of_lt_of_le lR ap.1.size
  replace lbu := Nat.lt_of_lt_of_le lbu ap.1.size
  replace lbv := Nat.lt_of_lt_of_le lbv ap.1.size
  replace AP := AP.trans ap
  replace hrd := hn
  clear ap
  have q0 := hrd.2.1
  have q1 := hrd.2.2.1
  have t1 : decide (0 < ((bs []).size : Int)) = false := rfl
  have t2 : decide (0 < (bs []).size) = false := rfl
  have q2 := hrd.2.2.2.2
  have t3 : ((ln d : Int) == 0) = false := by have := ln_pos H0.out; rw [beq_eq_false_iff_ne]; omega
  have t4 : ((ln e : Int) == 0) = false := by have := ln_pos HE.out; rw [beq_eq_false_iff_ne]; omega
  go_wp2_with fail
  clear q0 q1 q2 t1 t2 t3 t4
  obtain ⟨X3, hX⟩ : ∃ X : World, X = w8.setCell ⟨g, 1, none⟩ (.bool false) := ⟨_, rfl⟩
  rw [← hX]
  replace hN := hN.setBox (i := 1) (u := .bool false) hrd.2.1 (by intro k m e; cases e)
  rw [← hX] at hN
  replace hM := hM.setBox (i := 1) (u := .bool false) hrd.2.1 (by intro k m e; cases e)
  rw [← hX] at hM
  replace hZ := hZ.setBox (i := 1) (u := .bool false) hrd.2.1 (by intro k m e; cases e)
  rw [← hX] at hZ
  replace h1 := h1.setBox (i := 1) (u := .bool false) hrd.2.1 (by intro k m e; cases e)
  rw [← hX] at h1
  replace hN2 := hN2.setBox (i := 1) (u := .bool false) hrd.2.1 (by intro k m e; cases e)
  rw [← hX] at hN2
  replace hE := hE.setBox (i := 1) (u := .bool false) hrd.2.1 (by intro k m e; cases e)
  rw [← hX] at hE
  replace hY := hY.setBox (i := 1) (u := .bool false) hrd.2.1 (by intro k m e; cases e)
  rw [← hX] at hY
  replace r0 := keepo (R := g) (j := 1) (u := .bool false) r0 (.inl hRg)
  rw [← hX] at r0
  replace f0 := keepof (R := g) (j := 1) (u := .bool false) f0
  rw [← hX] at f0
  replace r1 := keepo (R := g) (j := 1) (u := .bool false) r1 (.inl hRg)
  rw [← hX] at r1
  replace f1 := keepof (R := g) (j := 1) (u := .bool false) f1
  rw [← hX] at f1
  replace r2 := keepo (R := g) (j := 1) (u := .bool false) r2 (.inl hRg)
  rw [← hX] at r2
  replace f2 := keepof (R := g) (j := 1) (u := .bool false) f2
  rw [← hX] at f2
  replace r3 := keepo (R := g) (j := 1) (u := .bool false) r3 (.inl hRg)
  rw [← hX] at r3
  replace f3 := keepof (R := g) (j := 1) (u := .bool false) f3
  rw [← hX] at f3
  replace r4 := keepo (R := g) (j := 1) (u := .bool false) r4 (.inl hRg)
  rw [← hX] at r4
  replace f4 := keepof (R := g) (j := 1) (u := .bool false) f4
  rw [← hX] at f4
  replace u0 := keepo (R := g) (j := 1) (u := .bool false) u0 (.inl ngu)
  rw [← hX] at u0
  replace zu0 := keepof (R := g) (j := 1) (u := .bool false) zu0
  rw [← hX] at zu0
  replace u1 := keepo (R := g) (j := 1) (u := .bool false) u1 (.inl ngu)
  rw [← hX] at u1
  replace zu1 := keepof (R := g) (j := 1) (u := .bool false) zu1
  rw [← hX] at zu1
  replace v0 := keepo (R := g) (j := 1) (u := .bool false) v0 (.inl ngv)
  rw [← hX] at v0
  replace zv0 := keepof (R := g) (j := 1) (u := .bool false) zv0
  rw [← hX] at zv0
  replace v1 := keepo (R := g) (j := 1) (u := .bool false) v1 (.inl ngv)
  rw [← hX] at v1
  replace zv1 := keepof (R := g) (j := 1) (u := .bool false) zv1
  rw [← hX] at zv1
  replace lR := szs (a := ⟨g, 1, none⟩) (u := .bool false) lR
  rw [← hX] at lR
  replace lbu := szs (a := ⟨g, 1, none⟩) (u := .bool false) lbu
  rw [← hX] at lbu
  replace lbv := szs (a := ⟨g, 1, none⟩) (u := .bool false) lbv
  rw [← hX] at lbv
  replace hrd := hrd.set1 (c := false)
  replace AP := AP.set (i := 1) (u := .bool false)
  rw [← hX] at hrd AP
  clear hX
  have BX : Hid (ln (ab x) ≤ 8192) := Lib.hid (by rw [HX.out]; exact Nat.le_trans (ab_mul_ln HZB.out.1 (ab_nat_ln HYB.out.2.2)) (by omega))
  have BY : Hid (ln (ab y) ≤ 8192) := Lib.hid (by rw [HY.out]; exact Nat.le_trans (ab_mul_ln HYB.out.1 (ab_nat_ln HZB.out.2.2)) (by omega))
  have BM : Hid (ln m ≤ 8192) := Lib.hid (by rw [HM.out]; exact Nat.le_trans (nat_mul_ln HZB.out.2.2 HYB.out.2.2) (by omega))
  go_region_held3 (fun w' => w'.cell? ⟨p + 1, 0, none⟩ = some (.bool (sn (z))) ∧ w'.cell? ⟨p + 1, 1, none⟩ = some (.slice Z (ln (ab (z))) (ln (ab (z)))) ∧ w'.cell? ⟨p + 1 + 1, 0, none⟩ = some (.bool (sn z2)) ∧ w'.cell? ⟨p + 1 + 1, 1, none⟩ = some (.slice Y (ln (ab z2)) (ln (ab z2)))) (first | with_reducible exact ⟨u0, u1, v0, v1⟩ | with_reducible exact ⟨keepd u0, keepd u1, keepd v0, keepd v1⟩ | with_reducible exact ⟨(keeps (keeps (keeps (keeps (keeps u0 nRu) nRu) nRu) nRu) nRu), (keeps (keeps (keeps (keeps (keeps u1 nRu) nRu) nRu) nRu) nRu), (keeps (keeps (keeps (keeps (keeps v0 nRv) nRv) nRv) nRv) nRv), (keeps (keeps (keeps (keeps (keeps v1 nRv) nRv) nRv) nRv) nRv)⟩) (first
    | (go_at_call_of 52 (Value.slice Z (ln (ab z)) (ln (ab z))); refine (scaled_to x z e HX.out Z E _ (by exact hZ) (by exact hE) (Nat.le_trans HZB.out.1 (by omega)) (Nat.le_trans HYB.out.2.2 (by omega))).mono ?_; rintro e w9 ⟨Z1, rfl, hZ1, hb⟩; replace hb := undrew hb; have ap := Ap.of hb hrd.1; replace r0 := ap.cell r0 hRg lR; replace f0 := ap.frozen f0 hRg lR; replace r1 := ap.cell r1 hRg lR; replace f1 := ap.frozen f1 hRg lR; replace r2 := ap.cell r2 hRg lR; replace f2 := ap.frozen f2 hRg lR; replace r3 := ap.cell r3 hRg lR; replace f3 := ap.frozen f3 hRg lR; replace r4 := ap.cell r4 hRg lR; replace f4 := ap.frozen f4 hRg lR; replace u0 := ap.cell u0 ngu lbu; replace zu0 := ap.frozen zu0 ngu lbu; replace u1 := ap.cell u1 ngu lbu; replace zu1 := ap.frozen zu1 ngu lbu; replace v0 := ap.cell v0 ngv lbv; replace zv0 := ap.frozen zv0 ngv lbv; replace v1 := ap.cell v1 ngv lbv; replace zv1 := ap.frozen zv1 ngv lbv; replace hN := ap.nat hrd hN; replace hM := ap.nat hrd hM; replace hZ := ap.nat hrd hZ; replace h1 := ap.nat hrd h1; replace hN2 := ap.nat hrd hN2; replace hE := ap.nat hrd hE; replace hY := ap.nat hrd hY; replace lR := Nat.lt_of_lt_of_le lR ap.1.size; replace lbu := Nat.lt_of_lt_of_le lbu ap.1.size; replace lbv := Nat.lt_of_lt_of_le lbv ap.1.size; replace AP := AP.trans ap; replace hrd := hrd.to hb; clear ap hb)
    | (go_at_call_of 52 (Value.slice Y (ln (ab z2)) (ln (ab z2))); refine (scaled_to y z2 d HY.out Y M _ (by exact hY) (by exact hM) (Nat.le_trans HYB.out.1 (by omega)) (Nat.le_trans HZB.out.2.2 (by omega))).mono ?_; rintro e w10 ⟨Z2, rfl, hZ2, hb⟩; have ap := Ap.of hb hrd.1; replace r0 := ap.cell r0 hRg lR; replace f0 := ap.frozen f0 hRg lR; replace r1 := ap.cell r1 hRg lR; replace f1 := ap.frozen f1 hRg lR; replace r2 := ap.cell r2 hRg lR; replace f2 := ap.frozen f2 hRg lR; replace r3 := ap.cell r3 hRg lR; replace f3 := ap.frozen f3 hRg lR; replace r4 := ap.cell r4 hRg lR; replace f4 := ap.frozen f4 hRg lR; replace u0 := ap.cell u0 ngu lbu; replace zu0 := ap.frozen zu0 ngu lbu; replace u1 := ap.cell u1 ngu lbu; replace zu1 := ap.frozen zu1 ngu lbu; replace v0 := ap.cell v0 ngv lbv; replace zv0 := ap.frozen zv0 ngv lbv; replace v1 := ap.cell v1 ngv lbv; replace zv1 := ap.frozen zv1 ngv lbv; replace hN := ap.nat hrd hN; replace hM := ap.nat hrd hM; replace hZ := ap.nat hrd hZ; replace h1 := ap.nat hrd h1; replace hN2 := ap.nat hrd hN2; replace hE := ap.nat hrd hE; replace hY := ap.nat hrd hY; replace hZ1 := ap.nat hrd hZ1; replace lR := Nat.lt_of_lt_of_le lR ap.1.size; replace lbu := Nat.lt_of_lt_of_le lbu ap.1.size; replace lbv := Nat.lt_of_lt_of_le lbv ap.1.size; replace AP := AP.trans ap; replace hrd := hrd.to hb; clear ap hb)
    | (go_at_call 54; refine (mul_to m d e HM.out M E _ (by exact hM) (by exact hE) (Nat.le_trans HZB.out.2.2 (by omega)) (Nat.le_trans HYB.out.2.2 (by omega))).mono ?_; rintro e w11 ⟨Z3, rfl, hZ3, hb⟩; have ap := Ap.of hb hrd.1; replace r0 := ap.cell r0 hRg lR; replace f0 := ap.frozen f0 hRg lR; replace r1 := ap.cell r1 hRg lR; replace f1 := ap.frozen f1 hRg lR; replace r2 := ap.cell r2 hRg lR; replace f2 := ap.frozen f2 hRg lR; replace r3 := ap.cell r3 hRg lR; replace f3 := ap.frozen f3 hRg lR; replace r4 := ap.cell r4 hRg lR; replace f4 := ap.frozen f4 hRg lR; replace u0 := ap.cell u0 ngu lbu; replace zu0 := ap.frozen zu0 ngu lbu; replace u1 := ap.cell u1 ngu lbu; replace zu1 := ap.frozen zu1 ngu lbu; replace v0 := ap.cell v0 ngv lbv; replace zv0 := ap.frozen zv0 ngv lbv; replace v1 := ap.cell v1 ngv lbv; replace zv1 := ap.frozen zv1 ngv lbv; replace hN := ap.nat hrd hN; replace hM := ap.nat hrd hM; replace hZ := ap.nat hrd hZ; replace h1 := ap.nat hrd h1; replace hN2 := ap.nat hrd hN2; replace hE := ap.nat hrd hE; replace hY := ap.nat hrd hY; replace hZ1 := ap.nat hrd hZ1; replace hZ2 := ap.nat hrd hZ2; replace lR := Nat.lt_of_lt_of_le lR ap.1.size; replace lbu := Nat.lt_of_lt_of_le lbu ap.1.size; replace lbv := Nat.lt_of_lt_of_le lbv ap.1.size; replace AP := AP.trans ap; replace hrd := hrd.to hb; clear ap hb)
    | (go_at_call 44; refine (over_any x y m Z1 Z2 Z3 _ (by exact hZ1) (by exact hZ2) (by exact hZ3) (Nat.le_trans BX.out (by omega)) (Nat.le_trans BY.out (by omega)) (Nat.le_trans BM.out (by omega)) (by rw [HM.out]; exact Nat.mul_ne_zero H0.out HE.out)).mono ?_; rintro e w12 ⟨Q1, Q2, Q3, rfl, hQ, hb⟩; have ap := Ap.of hb hrd.1; replace r0 := ap.cell r0 hRg lR; replace f0 := ap.frozen f0 hRg lR; replace r1 := ap.cell r1 hRg lR; replace f1 := ap.frozen f1 hRg lR; replace r2 := ap.cell r2 hRg lR; replace f2 := ap.frozen f2 hRg lR; replace r3 := ap.cell r3 hRg lR; replace f3 := ap.frozen f3 hRg lR; replace r4 := ap.cell r4 hRg lR; replace f4 := ap.frozen f4 hRg lR; replace u0 := ap.cell u0 ngu lbu; replace zu0 := ap.frozen zu0 ngu lbu; replace u1 := ap.cell u1 ngu lbu; replace zu1 := ap.frozen zu1 ngu lbu; replace v0 := ap.cell v0 ngv lbv; replace zv0 := ap.frozen zv0 ngv lbv; replace v1 := ap.cell v1 ngv lbv; replace zv1 := ap.frozen zv1 ngv lbv; replace hN := ap.nat hrd hN; replace hM := ap.nat hrd hM; replace hZ := ap.nat hrd hZ; replace h1 := ap.nat hrd h1; replace hN2 := ap.nat hrd hN2; replace hE := ap.nat hrd hE; replace hY := ap.nat hrd hY; replace hZ1 := ap.nat hrd hZ1; replace hZ2 := ap.nat hrd hZ2; replace hZ3 := ap.nat hrd hZ3; replace lR := Nat.lt_of_lt_of_le lR ap.1.size; replace lbu := Nat.lt_of_lt_of_le lbu ap.1.size; replace lbv := Nat.lt_of_lt_of_le lbv ap.1.size; replace AP := AP.trans ap; replace hrd := hrd.to hb; clear ap hb))
  go_wp2_with fail
  replace HW := Lib.hid (HW.trans (AP.1.mono hgR))
  exact bodyPost_ret (v := .tuple #[.agg #[.bool (sn (na (fr x y m))), .slice Q1 (ln (ab (na (fr x y m)))) (ln (ab (na (fr x y m)))), .bool (sn (nb (fr x y m))), .slice Q2 (ln (ab (nb (fr x y m)))) (ln (ab (nb (fr x y m)))), .slice Q3 (ln (un (fr x y m))) (ln (un (fr x y m)))], .int .i64 0]) (by simp [results, Try.results33, go_sem, r0, r1, r2, r3, r4, f0, f1, f2, f3, f4]) rfl (retNumE_fin HW hQ (by omega) r0)

set_option maxHeartbeats 4000000 in
theorem parse_two_false (neg : Bool) (n d : Nat) (l : List UInt8) (w : World) (hl : magL n d l) (n2 e : Nat) (k : List UInt8) (hk : magL n2 e k) (hs : (sgL neg ++ (l ++ 43 :: (k ++ [105]))).length ≤ 4096) (hd0 : d ≠ 0) (he0 : e ≠ 0) (x y : Int) (m : Nat) (hx : x = zi neg n * (e : Int)) (hy : y = zi false n2 * (d : Int)) (hm : m = d * e) :
    Calls Try.prog 33 #[.string (bs (sgL neg ++ (l ++ 43 :: (k ++ [105]))))] w (RetNumE w 0 (fr x y m)) := by
  have HS := Lib.hid hs
  have HL := Lib.hid hl
  have HK := Lib.hid hk
  have H0 := Lib.hid hd0
  have HE := Lib.hid he0
  have HX := Lib.hid hx
  have HY := Lib.hid hy
  have HM := Lib.hid hm
  clear hs hl hk hd0 he0 hx hy hm
  go_enter Try.func33, Try.ntmps33
  have tl : decide (4096 < ((bs (sgL neg ++ (l ++ 43 :: (k ++ [105])))).size : Int)) = false := by rw [bs_size, decide_eq_false_iff_not]; have := HS.out; omega
  go_wp2_with fail
  obtain ⟨W, hW⟩ : ∃ W : World, W = (w.alloc (.cells #[.bool false, .slice none 0 0, .bool false, .slice none 0 0, .slice none 0 0] 27)).alloc (.cells #[.string (bs (sgL neg ++ (l ++ 43 :: (k ++ [105])))), .bool false] 106) := ⟨_, rfl⟩
  rw [← hW]
  have r0 : W.cell? ⟨w.heap.size, 0, none⟩ = some (.bool false) := by subst hW; go_simp
  have f0 : W.frozen? ⟨w.heap.size, 0, none⟩ = false := by subst hW; go_simp
  have r1 : W.cell? ⟨w.heap.size, 1, none⟩ = some (.slice none 0 0) := by subst hW; go_simp
  have f1 : W.frozen? ⟨w.heap.size, 1, none⟩ = false := by subst hW; go_simp
  have r2 : W.cell? ⟨w.heap.size, 2, none⟩ = some (.bool false) := by subst hW; go_simp
  have f2 : W.frozen? ⟨w.heap.size, 2, none⟩ = false := by subst hW; go_simp
  have r3 : W.cell? ⟨w.heap.size, 3, none⟩ = some (.slice none 0 0) := by subst hW; go_simp
  have f3 : W.frozen? ⟨w.heap.size, 3, none⟩ = false := by subst hW; go_simp
  have r4 : W.cell? ⟨w.heap.size, 4, none⟩ = some (.slice none 0 0) := by subst hW; go_simp
  have f4 : W.frozen? ⟨w.heap.size, 4, none⟩ = false := by subst hW; go_simp
  have hrd : Rd W (w.heap.size + 1) (bs (sgL neg ++ (l ++ 43 :: (k ++ [105])))) false := by subst hW; exact ⟨by simp, by go_simp, by go_simp, by go_simp, by go_simp⟩
  have HW : Below w.heap.size w W := by subst hW; exact ((Below.refl _ _).alloc (Nat.le_refl _) _).alloc (by simp) _
  have lR : w.heap.size < W.heap.size := by subst hW; simp; omega
  clear hW tl
  have hRg : w.heap.size ≠ w.heap.size + 1 := by omega
  have AP : Ap (w.heap.size + 1) W W := Ap.refl _ _
  have hgR : w.heap.size ≤ w.heap.size + 1 := by omega
  generalize w.heap.size + 1 = g at *
  refine (take_sign neg (l ++ (43 :: (k ++ [105]))) g _ hrd (fun x hx => mag_head HL.out (43 :: (k ++ [105])) x hx)).mono ?_
  rintro e w1 ⟨rfl, hn, ap⟩
  replace r0 := ap.cell r0 hRg lR
  replace f0 := ap.frozen f0 hRg lR
  replace r1 := ap.cell r1 hRg lR
  replace f1 := ap.frozen f1 hRg lR
  replace r2 := ap.cell r2 hRg lR
  replace f2 := ap.frozen f2 hRg lR
  replace r3 := ap.cell r3 hRg lR
  replace f3 := ap.frozen f3 hRg lR
  replace r4 := ap.cell r4 hRg lR
  replace f4 := ap.frozen f4 hRg lR
  replace lR := Nat.lt_of_lt_of_le lR ap.1.size
  replace AP := AP.trans ap
  replace hrd := hn
  clear ap
  go_wp2_with fail
  refine (mag_any (43 :: (k ++ [105])) g _ HL.out hrd (by have := HS.out; simp at this ⊢; omega) (nmg_sign (by decide) _)).mono ?_
  rintro e w2 ⟨N, M, rfl, hN, hM, hn, ap⟩
  replace r0 := ap.cell r0 hRg lR
  replace f0 := ap.frozen f0 hRg lR
  replace r1 := ap.cell r1 hRg lR
  replace f1 := ap.frozen f1 hRg lR
  replace r2 := ap.cell r2 hRg lR
  replace f2 := ap.frozen f2 hRg lR
  replace r3 := ap.cell r3 hRg lR
  replace f3 := ap.frozen f3 hRg lR
  replace r4 := ap.cell r4 hRg lR
  replace f4 := ap.frozen f4 hRg lR
  replace lR := Nat.lt_of_lt_of_le lR ap.1.size
  replace AP := AP.trans ap
  replace hrd := hn
  clear ap
  go_wp2_with fail
  refine (wholeOf_any neg n N _ (by exact hN)).mono ?_
  rintro e w3 ⟨Z, rfl, hZ, hb⟩
  have ap := Ap.of hb hrd.1
  replace r0 := ap.cell r0 hRg lR
  replace f0 := ap.frozen f0 hRg lR
  replace r1 := ap.cell r1 hRg lR
  replace f1 := ap.frozen f1 hRg lR
  replace r2 := ap.cell r2 hRg lR
  replace f2 := ap.frozen f2 hRg lR
  replace r3 := ap.cell r3 hRg lR
  replace f3 := ap.frozen f3 hRg lR
  replace r4 := ap.cell r4 hRg lR
  replace f4 := ap.frozen f4 hRg lR
  replace hN := ap.nat hrd hN
  replace hM := ap.nat hrd hM
  replace lR := Nat.lt_of_lt_of_le lR ap.1.size
  replace AP := AP.trans ap
  replace hrd := hrd.to hb
  clear ap hb
  go_wp2_with fail
  have HZB : Hid (ln (ab (zi neg n)) ≤ 4096 ∧ ln n ≤ 4096 ∧ ln d ≤ 4096) := Lib.hid (mag_bound HL.out neg (43 :: (k ++ [105])) HS.out)
  generalize zi neg n = z at *
  obtain ⟨X, hX⟩ : ∃ X : World, X = (((w3.alloc (.cells #[.int .u32 1] 84)).alloc (.cells #[.bool (sn (z)), .slice Z (ln (ab (z))) (ln (ab (z)))] 25)).alloc (.cells #[.bool false, .slice none 0 0] 25)) := ⟨_, rfl⟩
  rw [← hX]
  have hb : Below w3.heap.size w3 X := by subst hX; exact (((Below.refl _ _).alloc (Nat.le_refl _) _).alloc (by simp) _).alloc (by simp; omega) _
  have h1 : Nat32 X (some ⟨w3.heap.size, 0, none⟩) 1 := by subst hX; exact ((nat1_new _ _).alloc _).alloc _
  have u0 : X.cell? ⟨w3.heap.size + 1, 0, none⟩ = some (.bool (sn (z))) := by subst hX; go_simp
  have zu0 : X.frozen? ⟨w3.heap.size + 1, 0, none⟩ = false := by subst hX; go_simp
  have u1 : X.cell? ⟨w3.heap.size + 1, 1, none⟩ = some (.slice Z (ln (ab (z))) (ln (ab (z)))) := by subst hX; go_simp
  have zu1 : X.frozen? ⟨w3.heap.size + 1, 1, none⟩ = false := by subst hX; go_simp
  have lbu : w3.heap.size + 1 < X.heap.size := by subst hX; simp <;> omega
  have ngu : w3.heap.size + 1 ≠ g := by have := hrd.1; omega
  have nRu : w3.heap.size + 1 ≠ w.heap.size := by have := lR; omega
  have v0 : X.cell? ⟨w3.heap.size + 1 + 1, 0, none⟩ = some (.bool false) := by subst hX; go_simp
  have zv0 : X.frozen? ⟨w3.heap.size + 1 + 1, 0, none⟩ = false := by subst hX; go_simp
  have v1 : X.cell? ⟨w3.heap.size + 1 + 1, 1, none⟩ = some (.slice none 0 0) := by subst hX; go_simp
  have zv1 : X.frozen? ⟨w3.heap.size + 1 + 1, 1, none⟩ = false := by subst hX; go_simp
  have lbv : w3.heap.size + 1 + 1 < X.heap.size := by subst hX; simp <;> omega
  have ngv : w3.heap.size + 1 + 1 ≠ g := by have := hrd.1; omega
  have nRv : w3.heap.size + 1 + 1 ≠ w.heap.size := by have := lR; omega
  clear hX
  have hWp : W.heap.size ≤ w3.heap.size := AP.1.size
  have hgp : g ≤ w3.heap.size := Nat.le_of_lt hrd.1
  have ap := Ap.of hb hrd.1
  replace r0 := ap.cell r0 hRg lR
  replace f0 := ap.frozen f0 hRg lR
  replace r1 := ap.cell r1 hRg lR
  replace f1 := ap.frozen f1 hRg lR
  replace r2 := ap.cell r2 hRg lR
  replace f2 := ap.frozen f2 hRg lR
  replace r3 := ap.cell r3 hRg lR
  replace f3 := ap.frozen f3 hRg lR
  replace r4 := ap.cell r4 hRg lR
  replace f4 := ap.frozen f4 hRg lR
  replace hN := ap.nat hrd hN
  replace hM := ap.nat hrd hM
  replace hZ := ap.nat hrd hZ
  replace lR := Nat.lt_of_lt_of_le lR ap.1.size
  replace AP := AP.trans ap
  replace hrd := hrd.to hb
  clear ap hb
  generalize w3.heap.size = p at *
  refine (take_miss 105 (43 :: (k ++ [105])) g false _ hrd (fun x hx => by simp at hx; subst hx; decide)).mono ?_
  rintro e w4 ⟨rfl, hn, ap⟩
  replace r0 := ap.cell r0 hRg lR
  replace f0 := ap.frozen f0 hRg lR
  replace r1 := ap.cell r1 hRg lR
  replace f1 := ap.frozen f1 hRg lR
  replace r2 := ap.cell r2 hRg lR
  replace f2 := ap.frozen f2 hRg lR
  replace r3 := ap.cell r3 hRg lR
  replace f3 := ap.frozen f3 hRg lR
  replace r4 := ap.cell r4 hRg lR
  replace f4 := ap.frozen f4 hRg lR
  replace u0 := ap.cell u0 ngu lbu
  replace zu0 := ap.frozen zu0 ngu lbu
  replace u1 := ap.cell u1 ngu lbu
  replace zu1 := ap.frozen zu1 ngu lbu
  replace v0 := ap.cell v0 ngv lbv
  replace zv0 := ap.frozen zv0 ngv lbv
  replace v1 := ap.cell v1 ngv lbv
  replace zv1 := ap.frozen zv1 ngv lbv
  replace hN := ap.nat hrd hN
  replace hM := ap.nat hrd hM
  replace hZ := ap.nat hrd hZ
  replace h1 := ap.nat hrd h1
  replace lR := Nat.lt_of_lt_of_le lR ap.1.size
  replace lbu := Nat.lt_of_lt_of_le lbu ap.1.size
  replace lbv := Nat.lt_of_lt_of_le lbv ap.1.size
  replace AP := AP.trans ap
  replace hrd := hn
  clear ap
  have q0 := hrd.2.1
  have t1 : decide (0 < ((bs (43 :: (k ++ [105]))).size : Int)) = true := by rw [bs_size]; simp; omega
  have t2 : decide (0 < (bs (43 :: (k ++ [105]))).size) = true := by rw [bs_size]; simp
  go_wp2_with fail
  clear q0 t1 t2
  refine (take_miss 45 (43 :: (k ++ [105])) g false _ hrd (fun x hx => by simp at hx; subst hx; decide)).mono ?_
  rintro e w5 ⟨rfl, hn, ap⟩
  replace r0 := ap.cell r0 hRg lR
  replace f0 := ap.frozen f0 hRg lR
  replace r1 := ap.cell r1 hRg lR
  replace f1 := ap.frozen f1 hRg lR
  replace r2 := ap.cell r2 hRg lR
  replace f2 := ap.frozen f2 hRg lR
  replace r3 := ap.cell r3 hRg lR
  replace f3 := ap.frozen f3 hRg lR
  replace r4 := ap.cell r4 hRg lR
  replace f4 := ap.frozen f4 hRg lR
  replace u0 := ap.cell u0 ngu lbu
  replace zu0 := ap.frozen zu0 ngu lbu
  replace u1 := ap.cell u1 ngu lbu
  replace zu1 := ap.frozen zu1 ngu lbu
  replace v0 := ap.cell v0 ngv lbv
  replace zv0 := ap.frozen zv0 ngv lbv
  replace v1 := ap.cell v1 ngv lbv
  replace zv1 := ap.frozen zv1 ngv lbv
  replace hN := ap.nat hrd hN
  replace hM := ap.nat hrd hM
  replace hZ := ap.nat hrd hZ
  replace h1 := ap.nat hrd h1
  replace lR := Nat.lt_of_lt_of_le lR ap.1.size
  replace lbu := Nat.lt_of_lt_of_le lbu ap.1.size
  replace lbv := Nat.lt_of_lt_of_le lbv ap.1.size
  replace AP := AP.trans ap
  replace hrd := hn
  clear ap
  go_wp2_with fail
  refine (take_hit 43 (k ++ [105]) g false _ hrd).mono ?_
  rintro e w6 ⟨rfl, hn, ap⟩
  replace r0 := ap.cell r0 hRg lR
  replace f0 := ap.frozen f0 hRg lR
  replace r1 := ap.cell r1 hRg lR
  replace f1 := ap.frozen f1 hRg lR
  replace r2 := ap.cell r2 hRg lR
  replace f2 := ap.frozen f2 hRg lR
  replace r3 := ap.cell r3 hRg lR
  replace f3 := ap.frozen f3 hRg lR
  replace r4 := ap.cell r4 hRg lR
  replace f4 := ap.frozen f4 hRg lR
  replace u0 := ap.cell u0 ngu lbu
  replace zu0 := ap.frozen zu0 ngu lbu
  replace u1 := ap.cell u1 ngu lbu
  replace zu1 := ap.frozen zu1 ngu lbu
  replace v0 := ap.cell v0 ngv lbv
  replace zv0 := ap.frozen zv0 ngv lbv
  replace v1 := ap.cell v1 ngv lbv
  replace zv1 := ap.frozen zv1 ngv lbv
  replace hN := ap.nat hrd hN
  replace hM := ap.nat hrd hM
  replace hZ := ap.nat hrd hZ
  replace h1 := ap.nat hrd h1
  replace lR := Nat.lt_of_lt_of_le lR ap.1.size
  replace lbu := Nat.lt_of_lt_of_le lbu ap.1.size
  replace lbv := Nat.lt_of_lt_of_le lbv ap.1.size
  replace AP := AP.trans ap
  replace hrd := hn
  clear ap
  go_wp2_with fail
  refine (mag_any [105] g _ HK.out hrd (by have := HS.out; simp at this ⊢; omega) nmg_i).mono ?_
  rintro e w7 ⟨N2, E, rfl, hN2, hE, hn, ap⟩
  replace r0 := ap.cell r0 hRg lR
  replace f0 := ap.frozen f0 hRg lR
  replace r1 := ap.cell r1 hRg lR
  replace f1 := ap.frozen f1 hRg lR
  replace r2 := ap.cell r2 hRg lR
  replace f2 := ap.frozen f2 hRg lR
  replace r3 := ap.cell r3 hRg lR
  replace f3 := ap.frozen f3 hRg lR
  replace r4 := ap.cell r4 hRg lR
  replace f4 := ap.frozen f4 hRg lR
  replace u0 := ap.cell u0 ngu lbu
  replace zu0 := ap.frozen zu0 ngu lbu
  replace u1 := ap.cell u1 ngu lbu
  replace zu1 := ap.frozen zu1 ngu lbu
  replace v0 := ap.cell v0 ngv lbv
  replace zv0 := ap.frozen zv0 ngv lbv
  replace v1 := ap.cell v1 ngv lbv
  replace zv1 := ap.frozen zv1 ngv lbv
  replace hN := ap.nat hrd hN
  replace hM := ap.nat hrd hM
  replace hZ := ap.nat hrd hZ
  replace h1 := ap.nat hrd h1
  replace lR := Nat.lt_of_lt_of_le lR ap.1.size
  replace lbu := Nat.lt_of_lt_of_le lbu ap.1.size
  replace lbv := Nat.lt_of_lt_of_le lbv ap.1.size
  replace AP := AP.trans ap
  replace hrd := hn
  clear ap
  go_wp2_with fail
  refine (wholeOf_any false n2 N2 _ (by exact hN2)).mono ?_
  rintro e w8 ⟨Y, rfl, hY, hb⟩
  have ap := Ap.of hb hrd.1
  replace r0 := ap.cell r0 hRg lR
  replace f0 := ap.frozen f0 hRg lR
  replace r1 := ap.cell r1 hRg lR
  replace f1 := ap.frozen f1 hRg lR
  replace r2 := ap.cell r2 hRg lR
  replace f2 := ap.frozen f2 hRg lR
  replace r3 := ap.cell r3 hRg lR
  replace f3 := ap.frozen f3 hRg lR
  replace r4 := ap.cell r4 hRg lR
  replace f4 := ap.frozen f4 hRg lR
  replace u0 := ap.cell u0 ngu lbu
  replace zu0 := ap.frozen zu0 ngu lbu
  replace u1 := ap.cell u1 ngu lbu
  replace zu1 := ap.frozen zu1 ngu lbu
  replace v0 := ap.cell v0 ngv lbv
  replace zv0 := ap.frozen zv0 ngv lbv
  replace v1 := ap.cell v1 ngv lbv
  replace zv1 := ap.frozen zv1 ngv lbv
  replace hN := ap.nat hrd hN
  replace hM := ap.nat hrd hM
  replace hZ := ap.nat hrd hZ
  replace h1 := ap.nat hrd h1
  replace hN2 := ap.nat hrd hN2
  replace hE := ap.nat hrd hE
  replace lR := Nat.lt_of_lt_of_le lR ap.1.size
  replace lbu := Nat.lt_of_lt_of_le lbu ap.1.size
  replace lbv := Nat.lt_of_lt_of_le lbv ap.1.size
  replace AP := AP.trans ap
  replace hrd := hrd.to hb
  clear ap hb
  go_wp2_with fail
  have HYB : Hid (ln (ab (zi false n2)) ≤ 4096 ∧ ln n2 ≤ 4096 ∧ ln e ≤ 4096) := Lib.hid (mag_bound HK.out false [105] (by have := HS.out; simp [sgL] at this ⊢; omega))
  generalize zi false n2 = z2 at *
  obtain ⟨X1, hX⟩ : ∃ X : World, X = w8.setCell ⟨p + 1 + 1, 0, none⟩ (.bool (sn z2)) := ⟨_, rfl⟩
  rw [← hX]
  replace hN := hN.setBox (i := 0) (u := .bool (sn z2)) v0 (by intro k m e; cases e)
  rw [← hX] at hN
  replace hM := hM.setBox (i := 0) (u := .bool (sn z2)) v0 (by intro k m e; cases e)
  rw [← hX] at hM
  replace hZ := hZ.setBox (i := 0) (u := .bool (sn z2)) v0 (by intro k m e; cases e)
  rw [← hX] at hZ
  replace h1 := h1.setBox (i := 0) (u := .bool (sn z2)) v0 (by intro k m e; cases e)
  rw [← hX] at h1
  replace hN2 := hN2.setBox (i := 0) (u := .bool (sn z2)) v0 (by intro k m e; cases e)
  rw [← hX] at hN2
  replace hE := hE.setBox (i := 0) (u := .bool (sn z2)) v0 (by intro k m e; cases e)
  rw [← hX] at hE
  replace hY := hY.setBox (i := 0) (u := .bool (sn z2)) v0 (by intro k m e; cases e)
  rw [← hX] at hY
  replace r0 := keepo (R := p + 1 + 1) (j := 0) (u := .bool (sn z2)) r0 (.inl (Ne.symm nRv))
  rw [← hX] at r0
  replace f0 := keepof (R := p + 1 + 1) (j := 0) (u := .bool (sn z2)) f0
  rw [← hX] at f0
  replace r1 := keepo (R := p + 1 + 1) (j := 0) (u := .bool (sn z2)) r1 (.inl (Ne.symm nRv))
  rw [← hX] at r1
  replace f1 := keepof (R := p + 1 + 1) (j := 0) (u := .bool (sn z2)) f1
  rw [← hX] at f1
  replace r2 := keepo (R := p + 1 + 1) (j := 0) (u := .bool (sn z2)) r2 (.inl (Ne.symm nRv))
  rw [← hX] at r2
  replace f2 := keepof (R := p + 1 + 1) (j := 0) (u := .bool (sn z2)) f2
  rw [← hX] at f2
  replace r3 := keepo (R := p + 1 + 1) (j := 0) (u := .bool (sn z2)) r3 (.inl (Ne.symm nRv))
  rw [← hX] at r3
  replace f3 := keepof (R := p + 1 + 1) (j := 0) (u := .bool (sn z2)) f3
  rw [← hX] at f3
  replace r4 := keepo (R := p + 1 + 1) (j := 0) (u := .bool (sn z2)) r4 (.inl (Ne.symm nRv))
  rw [← hX] at r4
  replace f4 := keepof (R := p + 1 + 1) (j := 0) (u := .bool (sn z2)) f4
  rw [← hX] at f4
  replace u0 := keepo (R := p + 1 + 1) (j := 0) (u := .bool (sn z2)) u0 (.inl (by omega))
  rw [← hX] at u0
  replace zu0 := keepof (R := p + 1 + 1) (j := 0) (u := .bool (sn z2)) zu0
  rw [← hX] at zu0
  replace u1 := keepo (R := p + 1 + 1) (j := 0) (u := .bool (sn z2)) u1 (.inl (by omega))
  rw [← hX] at u1
  replace zu1 := keepof (R := p + 1 + 1) (j := 0) (u := .bool (sn z2)) zu1
  rw [← hX] at zu1
  replace v0 := cell_self (u := .bool (sn z2)) v0
  rw [← hX] at v0
  replace zv0 := keepof (R := p + 1 + 1) (j := 0) (u := .bool (sn z2)) zv0
  rw [← hX] at zv0
  replace v1 := keepo (R := p + 1 + 1) (j := 0) (u := .bool (sn z2)) v1 (.inr (by simp))
  rw [← hX] at v1
  replace zv1 := keepof (R := p + 1 + 1) (j := 0) (u := .bool (sn z2)) zv1
  rw [← hX] at zv1
  replace lR := szs (a := ⟨p + 1 + 1, 0, none⟩) (u := .bool (sn z2)) lR
  rw [← hX] at lR
  replace lbu := szs (a := ⟨p + 1 + 1, 0, none⟩) (u := .bool (sn z2)) lbu
  rw [← hX] at lbu
  replace lbv := szs (a := ⟨p + 1 + 1, 0, none⟩) (u := .bool (sn z2)) lbv
  rw [← hX] at lbv
  replace hrd := hrd.other (i := 0) (u := .bool (sn z2)) ngv
  replace AP := AP.new (R := p + 1 + 1) (i := 0) (u := .bool (sn z2)) (by omega) (by omega)
  rw [← hX] at hrd AP
  clear hX
  obtain ⟨X2, hX⟩ : ∃ X : World, X = X1.setCell ⟨p + 1 + 1, 1, none⟩ (.slice Y (ln (ab z2)) (ln (ab z2))) := ⟨_, rfl⟩
  rw [← hX]
  replace hN := hN.setBox (i := 1) (u := .slice Y (ln (ab z2)) (ln (ab z2))) v0 (by intro k m e; cases e)
  rw [← hX] at hN
  replace hM := hM.setBox (i := 1) (u := .slice Y (ln (ab z2)) (ln (ab z2))) v0 (by intro k m e; cases e)
  rw [← hX] at hM
  replace hZ := hZ.setBox (i := 1) (u := .slice Y (ln (ab z2)) (ln (ab z2))) v0 (by intro k m e; cases e)
  rw [← hX] at hZ
  replace h1 := h1.setBox (i := 1) (u := .slice Y (ln (ab z2)) (ln (ab z2))) v0 (by intro k m e; cases e)
  rw [← hX] at h1
  replace hN2 := hN2.setBox (i := 1) (u := .slice Y (ln (ab z2)) (ln (ab z2))) v0 (by intro k m e; cases e)
  rw [← hX] at hN2
  replace hE := hE.setBox (i := 1) (u := .slice Y (ln (ab z2)) (ln (ab z2))) v0 (by intro k m e; cases e)
  rw [← hX] at hE
  replace hY := hY.setBox (i := 1) (u := .slice Y (ln (ab z2)) (ln (ab z2))) v0 (by intro k m e; cases e)
  rw [← hX] at hY
  replace r0 := keepo (R := p + 1 + 1) (j := 1) (u := .slice Y (ln (ab z2)) (ln (ab z2))) r0 (.inl (Ne.symm nRv))
  rw [← hX] at r0
  replace f0 := keepof (R := p + 1 + 1) (j := 1) (u := .slice Y (ln (ab z2)) (ln (ab z2))) f0
  rw [← hX] at f0
  replace r1 := keepo (R := p + 1 + 1) (j := 1) (u := .slice Y (ln (ab z2)) (ln (ab z2))) r1 (.inl (Ne.symm nRv))
  rw [← hX] at r1
  replace f1 := keepof (R := p + 1 + 1) (j := 1) (u := .slice Y (ln (ab z2)) (ln (ab z2))) f1
  rw [← hX] at f1
  replace r2 := keepo (R := p + 1 + 1) (j := 1) (u := .slice Y (ln (ab z2)) (ln (ab z2))) r2 (.inl (Ne.symm nRv))
  rw [← hX] at r2
  replace f2 := keepof (R := p + 1 + 1) (j := 1) (u := .slice Y (ln (ab z2)) (ln (ab z2))) f2
  rw [← hX] at f2
  replace r3 := keepo (R := p + 1 + 1) (j := 1) (u := .slice Y (ln (ab z2)) (ln (ab z2))) r3 (.inl (Ne.symm nRv))
  rw [← hX] at r3
  replace f3 := keepof (R := p + 1 + 1) (j := 1) (u := .slice Y (ln (ab z2)) (ln (ab z2))) f3
  rw [← hX] at f3
  replace r4 := keepo (R := p + 1 + 1) (j := 1) (u := .slice Y (ln (ab z2)) (ln (ab z2))) r4 (.inl (Ne.symm nRv))
  rw [← hX] at r4
  replace f4 := keepof (R := p + 1 + 1) (j := 1) (u := .slice Y (ln (ab z2)) (ln (ab z2))) f4
  rw [← hX] at f4
  replace u0 := keepo (R := p + 1 + 1) (j := 1) (u := .slice Y (ln (ab z2)) (ln (ab z2))) u0 (.inl (by omega))
  rw [← hX] at u0
  replace zu0 := keepof (R := p + 1 + 1) (j := 1) (u := .slice Y (ln (ab z2)) (ln (ab z2))) zu0
  rw [← hX] at zu0
  replace u1 := keepo (R := p + 1 + 1) (j := 1) (u := .slice Y (ln (ab z2)) (ln (ab z2))) u1 (.inl (by omega))
  rw [← hX] at u1
  replace zu1 := keepof (R := p + 1 + 1) (j := 1) (u := .slice Y (ln (ab z2)) (ln (ab z2))) zu1
  rw [← hX] at zu1
  replace v0 := keepo (R := p + 1 + 1) (j := 1) (u := .slice Y (ln (ab z2)) (ln (ab z2))) v0 (.inr (by simp))
  rw [← hX] at v0
  replace zv0 := keepof (R := p + 1 + 1) (j := 1) (u := .slice Y (ln (ab z2)) (ln (ab z2))) zv0
  rw [← hX] at zv0
  replace v1 := cell_self (u := .slice Y (ln (ab z2)) (ln (ab z2))) v1
  rw [← hX] at v1
  replace zv1 := keepof (R := p + 1 + 1) (j := 1) (u := .slice Y (ln (ab z2)) (ln (ab z2))) zv1
  rw [← hX] at zv1
  replace lR := szs (a := ⟨p + 1 + 1, 1, none⟩) (u := .slice Y (ln (ab z2)) (ln (ab z2))) lR
  rw [← hX] at lR
  replace lbu := szs (a := ⟨p + 1 + 1, 1, none⟩) (u := .slice Y (ln (ab z2)) (ln (ab z2))) lbu
  rw [← hX] at lbu
  replace lbv := szs (a := ⟨p + 1 + 1, 1, none⟩) (u := .slice Y (ln (ab z2)) (ln (ab z2))) lbv
  rw [← hX] at lbv
  replace hrd := hrd.other (i := 1) (u := .slice Y (ln (ab z2)) (ln (ab z2))) ngv
  replace AP := AP.new (R := p + 1 + 1) (i := 1) (u := .slice Y (ln (ab z2)) (ln (ab z2))) (by omega) (by omega)
  rw [← hX] at hrd AP
  clear hX
  refine (take_hit 105 [] g false _ hrd).mono ?_
  rintro e w9 ⟨rfl, hn, ap⟩
  replace r0 := ap.cell r0 hRg lR
  replace f0 := ap.frozen f0 hRg lR
  replace r1 := ap.cell r1 hRg lR
  replace f1 := ap.frozen f1 hRg lR
  replace r2 := ap.cell r2 hRg lR
  replace f2 := ap.frozen f2 hRg lR
  replace r3 := ap.cell r3 hRg lR
  replace f3 := ap.frozen f3 hRg lR
  replace r4 := ap.cell r4 hRg lR
  replace f4 := ap.frozen f4 hRg lR
  replace u0 := ap.cell u0 ngu lbu
  replace zu0 := ap.frozen zu0 ngu lbu
  replace u1 := ap.cell u1 ngu lbu
  replace zu1 := ap.frozen zu1 ngu lbu
  replace v0 := ap.cell v0 ngv lbv
  replace zv0 := ap.frozen zv0 ngv lbv
  replace v1 := ap.cell v1 ngv lbv
  replace zv1 := ap.frozen zv1 ngv lbv
  replace hN := ap.nat hrd hN
  replace hM := ap.nat hrd hM
  replace hZ := ap.nat hrd hZ
  replace h1 := ap.nat hrd h1
  replace hN2 := ap.nat hrd hN2
  replace hE := ap.nat hrd hE
  replace hY := ap.nat hrd hY
  replace lR := Nat.lt_of_lt_of_le lR ap.1.size
  replace lbu := Nat.lt_of_lt_of_le lbu ap.1.size
  replace lbv := Nat.lt_of_lt_of_le lbv ap.1.size
  replace AP := AP.trans ap
  replace hrd := hn
  clear ap
  have q0 := hrd.2.1
  have q1 := hrd.2.2.1
  have t1 : decide (0 < ((bs []).size : Int)) = false := rfl
  have t2 : decide (0 < (bs []).size) = false := rfl
  have q2 := hrd.2.2.2.2
  have t3 : ((ln d : Int) == 0) = false := by have := ln_pos H0.out; rw [beq_eq_false_iff_ne]; omega
  have t4 : ((ln e : Int) == 0) = false := by have := ln_pos HE.out; rw [beq_eq_false_iff_ne]; omega
  go_wp2_with fail
  clear q0 q1 q2 t1 t2 t3 t4
  obtain ⟨X3, hX⟩ : ∃ X : World, X = w9.setCell ⟨g, 1, none⟩ (.bool false) := ⟨_, rfl⟩
  rw [← hX]
  replace hN := hN.setBox (i := 1) (u := .bool false) hrd.2.1 (by intro k m e; cases e)
  rw [← hX] at hN
  replace hM := hM.setBox (i := 1) (u := .bool false) hrd.2.1 (by intro k m e; cases e)
  rw [← hX] at hM
  replace hZ := hZ.setBox (i := 1) (u := .bool false) hrd.2.1 (by intro k m e; cases e)
  rw [← hX] at hZ
  replace h1 := h1.setBox (i := 1) (u := .bool false) hrd.2.1 (by intro k m e; cases e)
  rw [← hX] at h1
  replace hN2 := hN2.setBox (i := 1) (u := .bool false) hrd.2.1 (by intro k m e; cases e)
  rw [← hX] at hN2
  replace hE := hE.setBox (i := 1) (u := .bool false) hrd.2.1 (by intro k m e; cases e)
  rw [← hX] at hE
  replace hY := hY.setBox (i := 1) (u := .bool false) hrd.2.1 (by intro k m e; cases e)
  rw [← hX] at hY
  replace r0 := keepo (R := g) (j := 1) (u := .bool false) r0 (.inl hRg)
  rw [← hX] at r0
  replace f0 := keepof (R := g) (j := 1) (u := .bool false) f0
  rw [← hX] at f0
  replace r1 := keepo (R := g) (j := 1) (u := .bool false) r1 (.inl hRg)
  rw [← hX] at r1
  replace f1 := keepof (R := g) (j := 1) (u := .bool false) f1
  rw [← hX] at f1
  replace r2 := keepo (R := g) (j := 1) (u := .bool false) r2 (.inl hRg)
  rw [← hX] at r2
  replace f2 := keepof (R := g) (j := 1) (u := .bool false) f2
  rw [← hX] at f2
  replace r3 := keepo (R := g) (j := 1) (u := .bool false) r3 (.inl hRg)
  rw [← hX] at r3
  replace f3 := keepof (R := g) (j := 1) (u := .bool false) f3
  rw [← hX] at f3
  replace r4 := keepo (R := g) (j := 1) (u := .bool false) r4 (.inl hRg)
  rw [← hX] at r4
  replace f4 := keepof (R := g) (j := 1) (u := .bool false) f4
  rw [← hX] at f4
  replace u0 := keepo (R := g) (j := 1) (u := .bool false) u0 (.inl ngu)
  rw [← hX] at u0
  replace zu0 := keepof (R := g) (j := 1) (u := .bool false) zu0
  rw [← hX] at zu0
  replace u1 := keepo (R := g) (j := 1) (u := .bool false) u1 (.inl ngu)
  rw [← hX] at u1
  replace zu1 := keepof (R := g) (j := 1) (u := .bool false) zu1
  rw [← hX] at zu1
  replace v0 := keepo (R := g) (j := 1) (u := .bool false) v0 (.inl ngv)
  rw [← hX] at v0
  replace zv0 := keepof (R := g) (j := 1) (u := .bool false) zv0
  rw [← hX] at zv0
  replace v1 := keepo (R := g) (j := 1) (u := .bool false) v1 (.inl ngv)
  rw [← hX] at v1
  replace zv1 := keepof (R := g) (j := 1) (u := .bool false) zv1
  rw [← hX] at zv1
  replace lR := szs (a := ⟨g, 1, none⟩) (u := .bool false) lR
  rw [← hX] at lR
  replace lbu := szs (a := ⟨g, 1, none⟩) (u := .bool false) lbu
  rw [← hX] at lbu
  replace lbv := szs (a := ⟨g, 1, none⟩) (u := .bool false) lbv
  rw [← hX] at lbv
  replace hrd := hrd.set1 (c := false)
  replace AP := AP.set (i := 1) (u := .bool false)
  rw [← hX] at hrd AP
  clear hX
  have BX : Hid (ln (ab x) ≤ 8192) := Lib.hid (by rw [HX.out]; exact Nat.le_trans (ab_mul_ln HZB.out.1 (ab_nat_ln HYB.out.2.2)) (by omega))
  have BY : Hid (ln (ab y) ≤ 8192) := Lib.hid (by rw [HY.out]; exact Nat.le_trans (ab_mul_ln HYB.out.1 (ab_nat_ln HZB.out.2.2)) (by omega))
  have BM : Hid (ln m ≤ 8192) := Lib.hid (by rw [HM.out]; exact Nat.le_trans (nat_mul_ln HZB.out.2.2 HYB.out.2.2) (by omega))
  go_region_held3 (fun w' => w'.cell? ⟨p + 1, 0, none⟩ = some (.bool (sn (z))) ∧ w'.cell? ⟨p + 1, 1, none⟩ = some (.slice Z (ln (ab (z))) (ln (ab (z)))) ∧ w'.cell? ⟨p + 1 + 1, 0, none⟩ = some (.bool (sn z2)) ∧ w'.cell? ⟨p + 1 + 1, 1, none⟩ = some (.slice Y (ln (ab z2)) (ln (ab z2)))) (first | with_reducible exact ⟨u0, u1, v0, v1⟩ | with_reducible exact ⟨keepd u0, keepd u1, keepd v0, keepd v1⟩ | with_reducible exact ⟨(keeps (keeps (keeps (keeps (keeps u0 nRu) nRu) nRu) nRu) nRu), (keeps (keeps (keeps (keeps (keeps u1 nRu) nRu) nRu) nRu) nRu), (keeps (keeps (keeps (keeps (keeps v0 nRv) nRv) nRv) nRv) nRv), (keeps (keeps (keeps (keeps (keeps v1 nRv) nRv) nRv) nRv) nRv)⟩) (first
    | (go_at_call_of 52 (Value.slice Z (ln (ab z)) (ln (ab z))); refine (scaled_to x z e HX.out Z E _ (by exact hZ) (by exact hE) (Nat.le_trans HZB.out.1 (by omega)) (Nat.le_trans HYB.out.2.2 (by omega))).mono ?_; rintro e w10 ⟨Z1, rfl, hZ1, hb⟩; replace hb := undrew hb; have ap := Ap.of hb hrd.1; replace r0 := ap.cell r0 hRg lR; replace f0 := ap.frozen f0 hRg lR; replace r1 := ap.cell r1 hRg lR; replace f1 := ap.frozen f1 hRg lR; replace r2 := ap.cell r2 hRg lR; replace f2 := ap.frozen f2 hRg lR; replace r3 := ap.cell r3 hRg lR; replace f3 := ap.frozen f3 hRg lR; replace r4 := ap.cell r4 hRg lR; replace f4 := ap.frozen f4 hRg lR; replace u0 := ap.cell u0 ngu lbu; replace zu0 := ap.frozen zu0 ngu lbu; replace u1 := ap.cell u1 ngu lbu; replace zu1 := ap.frozen zu1 ngu lbu; replace v0 := ap.cell v0 ngv lbv; replace zv0 := ap.frozen zv0 ngv lbv; replace v1 := ap.cell v1 ngv lbv; replace zv1 := ap.frozen zv1 ngv lbv; replace hN := ap.nat hrd hN; replace hM := ap.nat hrd hM; replace hZ := ap.nat hrd hZ; replace h1 := ap.nat hrd h1; replace hN2 := ap.nat hrd hN2; replace hE := ap.nat hrd hE; replace hY := ap.nat hrd hY; replace lR := Nat.lt_of_lt_of_le lR ap.1.size; replace lbu := Nat.lt_of_lt_of_le lbu ap.1.size; replace lbv := Nat.lt_of_lt_of_le lbv ap.1.size; replace AP := AP.trans ap; replace hrd := hrd.to hb; clear ap hb)
    | (go_at_call_of 52 (Value.slice Y (ln (ab z2)) (ln (ab z2))); refine (scaled_to y z2 d HY.out Y M _ (by exact hY) (by exact hM) (Nat.le_trans HYB.out.1 (by omega)) (Nat.le_trans HZB.out.2.2 (by omega))).mono ?_; rintro e w11 ⟨Z2, rfl, hZ2, hb⟩; have ap := Ap.of hb hrd.1; replace r0 := ap.cell r0 hRg lR; replace f0 := ap.frozen f0 hRg lR; replace r1 := ap.cell r1 hRg lR; replace f1 := ap.frozen f1 hRg lR; replace r2 := ap.cell r2 hRg lR; replace f2 := ap.frozen f2 hRg lR; replace r3 := ap.cell r3 hRg lR; replace f3 := ap.frozen f3 hRg lR; replace r4 := ap.cell r4 hRg lR; replace f4 := ap.frozen f4 hRg lR; replace u0 := ap.cell u0 ngu lbu; replace zu0 := ap.frozen zu0 ngu lbu; replace u1 := ap.cell u1 ngu lbu; replace zu1 := ap.frozen zu1 ngu lbu; replace v0 := ap.cell v0 ngv lbv; replace zv0 := ap.frozen zv0 ngv lbv; replace v1 := ap.cell v1 ngv lbv; replace zv1 := ap.frozen zv1 ngv lbv; replace hN := ap.nat hrd hN; replace hM := ap.nat hrd hM; replace hZ := ap.nat hrd hZ; replace h1 := ap.nat hrd h1; replace hN2 := ap.nat hrd hN2; replace hE := ap.nat hrd hE; replace hY := ap.nat hrd hY; replace hZ1 := ap.nat hrd hZ1; replace lR := Nat.lt_of_lt_of_le lR ap.1.size; replace lbu := Nat.lt_of_lt_of_le lbu ap.1.size; replace lbv := Nat.lt_of_lt_of_le lbv ap.1.size; replace AP := AP.trans ap; replace hrd := hrd.to hb; clear ap hb)
    | (go_at_call 54; refine (mul_to m d e HM.out M E _ (by exact hM) (by exact hE) (Nat.le_trans HZB.out.2.2 (by omega)) (Nat.le_trans HYB.out.2.2 (by omega))).mono ?_; rintro e w12 ⟨Z3, rfl, hZ3, hb⟩; have ap := Ap.of hb hrd.1; replace r0 := ap.cell r0 hRg lR; replace f0 := ap.frozen f0 hRg lR; replace r1 := ap.cell r1 hRg lR; replace f1 := ap.frozen f1 hRg lR; replace r2 := ap.cell r2 hRg lR; replace f2 := ap.frozen f2 hRg lR; replace r3 := ap.cell r3 hRg lR; replace f3 := ap.frozen f3 hRg lR; replace r4 := ap.cell r4 hRg lR; replace f4 := ap.frozen f4 hRg lR; replace u0 := ap.cell u0 ngu lbu; replace zu0 := ap.frozen zu0 ngu lbu; replace u1 := ap.cell u1 ngu lbu; replace zu1 := ap.frozen zu1 ngu lbu; replace v0 := ap.cell v0 ngv lbv; replace zv0 := ap.frozen zv0 ngv lbv; replace v1 := ap.cell v1 ngv lbv; replace zv1 := ap.frozen zv1 ngv lbv; replace hN := ap.nat hrd hN; replace hM := ap.nat hrd hM; replace hZ := ap.nat hrd hZ; replace h1 := ap.nat hrd h1; replace hN2 := ap.nat hrd hN2; replace hE := ap.nat hrd hE; replace hY := ap.nat hrd hY; replace hZ1 := ap.nat hrd hZ1; replace hZ2 := ap.nat hrd hZ2; replace lR := Nat.lt_of_lt_of_le lR ap.1.size; replace lbu := Nat.lt_of_lt_of_le lbu ap.1.size; replace lbv := Nat.lt_of_lt_of_le lbv ap.1.size; replace AP := AP.trans ap; replace hrd := hrd.to hb; clear ap hb)
    | (go_at_call 44; refine (over_any x y m Z1 Z2 Z3 _ (by exact hZ1) (by exact hZ2) (by exact hZ3) (Nat.le_trans BX.out (by omega)) (Nat.le_trans BY.out (by omega)) (Nat.le_trans BM.out (by omega)) (by rw [HM.out]; exact Nat.mul_ne_zero H0.out HE.out)).mono ?_; rintro e w13 ⟨Q1, Q2, Q3, rfl, hQ, hb⟩; have ap := Ap.of hb hrd.1; replace r0 := ap.cell r0 hRg lR; replace f0 := ap.frozen f0 hRg lR; replace r1 := ap.cell r1 hRg lR; replace f1 := ap.frozen f1 hRg lR; replace r2 := ap.cell r2 hRg lR; replace f2 := ap.frozen f2 hRg lR; replace r3 := ap.cell r3 hRg lR; replace f3 := ap.frozen f3 hRg lR; replace r4 := ap.cell r4 hRg lR; replace f4 := ap.frozen f4 hRg lR; replace u0 := ap.cell u0 ngu lbu; replace zu0 := ap.frozen zu0 ngu lbu; replace u1 := ap.cell u1 ngu lbu; replace zu1 := ap.frozen zu1 ngu lbu; replace v0 := ap.cell v0 ngv lbv; replace zv0 := ap.frozen zv0 ngv lbv; replace v1 := ap.cell v1 ngv lbv; replace zv1 := ap.frozen zv1 ngv lbv; replace hN := ap.nat hrd hN; replace hM := ap.nat hrd hM; replace hZ := ap.nat hrd hZ; replace h1 := ap.nat hrd h1; replace hN2 := ap.nat hrd hN2; replace hE := ap.nat hrd hE; replace hY := ap.nat hrd hY; replace hZ1 := ap.nat hrd hZ1; replace hZ2 := ap.nat hrd hZ2; replace hZ3 := ap.nat hrd hZ3; replace lR := Nat.lt_of_lt_of_le lR ap.1.size; replace lbu := Nat.lt_of_lt_of_le lbu ap.1.size; replace lbv := Nat.lt_of_lt_of_le lbv ap.1.size; replace AP := AP.trans ap; replace hrd := hrd.to hb; clear ap hb))
  go_wp2_with fail
  replace HW := Lib.hid (HW.trans (AP.1.mono hgR))
  exact bodyPost_ret (v := .tuple #[.agg #[.bool (sn (na (fr x y m))), .slice Q1 (ln (ab (na (fr x y m)))) (ln (ab (na (fr x y m)))), .bool (sn (nb (fr x y m))), .slice Q2 (ln (ab (nb (fr x y m)))) (ln (ab (nb (fr x y m)))), .slice Q3 (ln (un (fr x y m))) (ln (un (fr x y m)))], .int .i64 0]) (by simp [results, Try.results33, go_sem, r0, r1, r2, r3, r4, f0, f1, f2, f3, f4]) rfl (retNumE_fin HW hQ (by omega) r0)

end Go.Proofs.Ytapmhidddgicfaa
