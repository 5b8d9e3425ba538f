/- Helpers of the walk of 'Parse': products with 1 and 0; a new result, a local integer and numbers kept in one fact each. 'Parse' over any bytes. 'Parse' over any bytes: an 'i' behind the magnitude; no sign; too long. 'Parse' over any bytes: two parts. The program's 'Parse' over any bytes. -/
import Derived.Test.YtgpmlhpgdalheaaGreatPA
import Derived.Test.YtgpmlhpgdalheaaGreatPJ
namespace Go.Proofs.YtgpmlhpgdalheaaGreat
open Go.RowKit Pl
set_option linter.unusedVariables false
set_option linter.unusedSimpArgs false

theorem scaled_one (a : Int) (A B : Option Addr) (w : World) (hx : Nat32 w A (ab a)) (hy : Nat32 w B 1) (hb : ln (ab a) ≤ 1099511627776) :
    Calls Tryz.prog 97 #[.agg #[.bool (sn a), .slice A (ln (ab a)) (ln (ab a))], .slice B 1 1] w (RetWhole w a) := by
  have h := scaled_any a 1 A B w hx hy hb (by rw [ln_one]; omega)
  rw [ln_one, show a * ((1 : Nat) : Int) = a by simp] at h
  exact h
theorem scaled_zero (x : Int) (h0 : x = 0) (d : Nat) (B : Option Addr) (w : World) (hy : Nat32 w B d) (hb : ln d ≤ 1099511627776) :
    Calls Tryz.prog 97 #[.agg #[.bool false, .slice none 0 0], .slice B (ln d) (ln d)] w (RetWhole w x) := by
  have h := scaled_any 0 d none B w (Nat32.zero _ _) hy (by show ln 0 ≤ _; rw [ln_zero]; omega) hb
  rw [sn_zero, show ab 0 = 0 from rfl, ln_zero, Int.zero_mul] at h
  subst h0; exact h
theorem mul_one (d : Nat) (A B : Option Addr) (w : World) (hx : Nat32 w A d) (hy : Nat32 w B 1) (hb : ln d ≤ 1099511627776) :
    Calls Tryz.prog 99 #[.slice A (ln d) (ln d), .slice B 1 1] w (RetNat w d) := by
  have h := mul_any d 1 A B w hx hy (by omega) (by rw [ln_one]; omega)
  rwa [ln_one, Nat.mul_one] at h
theorem Rd.other {w : World} {g R i : Nat} {s : ByteArray} {b : Bool} {u : Value} (h : Rd w g s b) (hne : R ≠ g) : Rd (w.setCell ⟨R, i, none⟩ u) g s b :=
  ⟨by simpa [World.setCell] using h.1, keepo h.2.1 (.inl (Ne.symm hne)), keepo h.2.2.1 (.inl (Ne.symm hne)), keepof h.2.2.2.1, keepof h.2.2.2.2⟩
theorem Ap.new {g R i : Nat} {a w : World} {u : Value} (h : Ap g a w) (hg : g ≤ R) (hR : a.heap.size ≤ R) : Ap g a (w.setCell ⟨R, i, none⟩ u) :=
  ⟨h.1.setCell (by exact hg) _, fun k hk hl => (Below.heap_setCell _ _ _ _ (by show k ≠ R; omega)).trans (h.2 k hk hl)⟩
theorem one_mul' (d : Nat) (A B : Option Addr) (w : World) (hx : Nat32 w A d) (hy : Nat32 w B 1) (hb : ln d ≤ 1099511627776) :
    Calls Tryz.prog 99 #[.slice B 1 1, .slice A (ln d) (ln d)] w (RetNat w d) := by
  have h := mul_any 1 d B A w hy hx (by rw [ln_one]; omega) (by omega)
  rwa [ln_one, Nat.one_mul] at h
theorem scaled_to (x a : Int) (n : Nat) (h0 : x = a * (n : Int)) (A B : Option Addr) (w : World) (hx : Nat32 w A (ab a)) (hy : Nat32 w B n) (hbx : ln (ab a) ≤ 1099511627776) (hby : ln n ≤ 1099511627776) :
    Calls Tryz.prog 97 #[.agg #[.bool (sn a), .slice A (ln (ab a)) (ln (ab a))], .slice B (ln n) (ln n)] w (RetWhole w x) := by
  subst h0; exact scaled_any a n A B w hx hy hbx hby
theorem mul_to (m x y : Nat) (h0 : m = x * y) (A B : Option Addr) (w : World) (hx : Nat32 w A x) (hy : Nat32 w B y) (hbx : ln x ≤ 35184372088832) (hby : ln y ≤ 35184372088832) :
    Calls Tryz.prog 99 #[.slice A (ln x) (ln x), .slice B (ln y) (ln y)] w (RetNat w m) := by
  subst h0; exact mul_any x y A B w hx hy hbx hby
theorem NewVarN.ap {B R g : Nat} {w w' : World} (h : NewVarN B R w) (ap : Ap g w w') (hne : R ≠ g) : NewVarN B R w' := by
  obtain ⟨h1, l, ⟨c0, c1, c2, c3, c4⟩, f0, f1, f2, f3, f4⟩ := h
  exact ⟨h1, Nat.lt_of_lt_of_le l ap.1.size, ⟨ap.cell c0 hne l, ap.cell c1 hne l, ap.cell c2 hne l, ap.cell c3 hne l, ap.cell c4 hne l⟩, ap.frozen f0 hne l, ap.frozen f1 hne l, ap.frozen f2 hne l, ap.frozen f3 hne l, ap.frozen f4 hne l⟩
theorem NewVarN.set {B R b i : Nat} {w : World} {u : Value} (h : NewVarN B R w) (hne : R ≠ b) : NewVarN B R (w.setCell ⟨b, i, none⟩ u) := by
  obtain ⟨h1, l, ⟨c0, c1, c2, c3, c4⟩, f0, f1, f2, f3, f4⟩ := h
  exact ⟨h1, by simpa [World.setCell] using l, ⟨keepo c0 (.inl hne), keepo c1 (.inl hne), keepo c2 (.inl hne), keepo c3 (.inl hne), keepo c4 (.inl hne)⟩, keepof f0, keepof f1, keepof f2, keepof f3, keepof f4⟩
/-- A local variable of two cells. -/
def WV (w : World) (b : Nat) (x y : Value) : Prop := b < w.heap.size ∧ w.cell? ⟨b, 0, none⟩ = some x ∧ w.cell? ⟨b, 1, none⟩ = some y ∧ w.frozen? ⟨b, 0, none⟩ = false ∧ w.frozen? ⟨b, 1, none⟩ = false
theorem WV.c0 {w : World} {b : Nat} {x y : Value} (h : WV w b x y) : w.cell? ⟨b, 0, none⟩ = some x := h.2.1
theorem WV.c1 {w : World} {b : Nat} {x y : Value} (h : WV w b x y) : w.cell? ⟨b, 1, none⟩ = some y := h.2.2.1
theorem WV.ap {w w' : World} {b g : Nat} {x y : Value} (h : WV w b x y) (ap : Ap g w w') (hne : b ≠ g) : WV w' b x y :=
  ⟨Nat.lt_of_lt_of_le h.1 ap.1.size, ap.cell h.2.1 hne h.1, ap.cell h.2.2.1 hne h.1, ap.frozen h.2.2.2.1 hne h.1, ap.frozen h.2.2.2.2 hne h.1⟩
theorem WV.set {w : World} {b c i : Nat} {x y u : Value} (h : WV w b x y) (hne : b ≠ c) : WV (w.setCell ⟨c, i, none⟩ u) b x y :=
  ⟨by simpa [World.setCell] using h.1, keepo h.2.1 (.inl hne), keepo h.2.2.1 (.inl hne), keepof h.2.2.2.1, keepof h.2.2.2.2⟩
theorem WV.put0 {w : World} {b : Nat} {x y u : Value} (h : WV w b x y) : WV (w.setCell ⟨b, 0, none⟩ u) b u y :=
  ⟨by simpa [World.setCell] using h.1, cell_self h.2.1, keepo h.2.2.1 (.inr (by simp)), keepof h.2.2.2.1, keepof h.2.2.2.2⟩
theorem WV.put1 {w : World} {b : Nat} {x y u : Value} (h : WV w b x y) : WV (w.setCell ⟨b, 1, none⟩ u) b x u :=
  ⟨by simpa [World.setCell] using h.1, keepo h.2.1 (.inr (by simp)), cell_self h.2.2.1, keepof h.2.2.2.1, keepof h.2.2.2.2⟩
/-- Numbers in memory. -/
def NS (w : World) (l : List (Option Addr × Nat)) : Prop := ∀ p ∈ l, Nat32 w p.1 p.2
theorem NS.nil (w : World) : NS w [] := fun p hp => by simp at hp
theorem NS.cons {w : World} {l : List (Option Addr × Nat)} {A : Option Addr} {n : Nat} (h : NS w l) (k : Nat32 w A n) : NS w ((A, n) :: l) := fun p hp => by
  rcases List.mem_cons.1 hp with e | e
  · rw [e]; exact k
  · exact h p e
theorem NS.at {w : World} {l : List (Option Addr × Nat)} {A : Option Addr} {n : Nat} (h : NS w l) (i : Nat) (hi : l[i]? = some (A, n)) : Nat32 w A n := h (A, n) (List.mem_of_getElem? hi)
theorem NS.ap {w w' : World} {l : List (Option Addr × Nat)} {g : Nat} {s : ByteArray} {b : Bool} (h : NS w l) (ap : Ap g w w') (hr : Rd w g s b) : NS w' l := fun p hp => ap.nat hr (h p hp)
theorem NS.box {w : World} {l : List (Option Addr × Nat)} {R i : Nat} {v u : Value} (h : NS w l) (hv : w.cell? ⟨R, 0, none⟩ = some v) (hne : ∀ k m, v ≠ .int k m) : NS (w.setCell ⟨R, i, none⟩ u) l := fun p hp => (h p hp).setBox hv hne
theorem kq {K L : Int} {Q R : Cx} (h : (K, Q) = (L, R)) : K = L ∧ Q = R := by injection h with h1 h2; exact ⟨h1, h2⟩
theorem bool_ne (b : Bool) : ∀ k m, Value.bool b ≠ .int k m := by intro k m e; cases e
theorem str_ne (b : ByteArray) : ∀ k m, Value.string b ≠ .int k m := by intro k m e; cases e
end Go.Proofs.YtgpmlhpgdalheaaGreat

namespace Go.Proofs.YtgpmlhpgdalheaaGreat
open Go.RowKit Pl
set_option linter.unusedVariables false
set_option linter.unusedSimpArgs false

theorem sgr_def (l : List UInt8) : (if l.head? = some 45 then l.tail else l) = sgr l := rfl
set_option maxHeartbeats 4000000 in
theorem parseG_real_ok (l : List UInt8) (neg : Bool) (hneg : neg = decide (l.head? = some 45)) (n d : Nat) (b1 : Bool) (rl : List UInt8) (w : World) (hm : mgP false (sgr l) = ((n, d), b1, rl)) (hs : l.length ≤ 4096) (hr1 : rl = []) (hb1 : b1 = false) (hd0 : d ≠ 0) (x : Int) (hx : x = 0) :
    Calls Tryz.prog 84 #[.string (bs l)] w (RetNumE w 0 (fr (zi neg n) x d)) := by
  have HS := Lib.hid hs
  have HMG := Lib.hid hm
  have HNG := Lib.hid hneg
  have HB := Lib.hid (mgP_ln (b := false) (l := sgr l) (K := 4098) (by have := sgr_le l; omega))
  rw [hm] at HB
  have HR := Lib.hid (mgP_len false (sgr l))
  rw [hm] at HR
  subst hr1
  subst hb1
  have H0 := Lib.hid hd0
  have HX := Lib.hid hx
  clear hd0 hx
  clear hs hm hneg
  go_enter Tryz.func84, Tryz.ntmps84
  have tl : decide (4096 < ((bs (l)).size : Int)) = false := by rw [bs_size, decide_eq_false_iff_not]; have := HS.out; omega
  go_wp2_with fail
  obtain ⟨W, hW⟩ : ∃ W : World, W = (w.alloc (.cells #[.bool false, .slice none 0 0, .bool false, .slice none 0 0, .slice none 0 0] 30)).alloc (.cells #[.string (bs (l)), .bool false] 174) := ⟨_, rfl⟩
  rw [← hW]
  have rr : NewVarN 0 w.heap.size W := by subst hW; exact ⟨Nat.zero_le _, by simp; omega, ⟨by go_simp, by go_simp, by go_simp, by go_simp, by go_simp⟩, by go_simp, by go_simp, by go_simp, by go_simp, by go_simp⟩
  have ns := NS.nil W
  have hrd : Rd W (w.heap.size + 1) (bs (l)) false := by subst hW; exact ⟨by simp, by go_simp, by go_simp, by go_simp, by go_simp⟩
  have HW : Below w.heap.size w W := by subst hW; exact ((Below.refl _ _).alloc (Nat.le_refl _) _).alloc (by simp) _
  clear hW tl
  have hRg : w.heap.size ≠ w.heap.size + 1 := by omega
  have AP : Ap (w.heap.size + 1) W W := Ap.refl _ _
  have hgR : w.heap.size ≤ w.heap.size + 1 := by omega
  generalize w.heap.size + 1 = g at *
  refine (take_list 45 l g false _ hrd).mono ?_
  rintro e w1 ⟨rfl, hn, ap⟩
  replace rr := rr.ap ap hRg
  replace ns := ns.ap ap hrd
  replace AP := AP.trans ap
  replace hrd := hn
  clear ap
  rw [sgr_def] at hrd
  rw [← HNG.out]
  obtain ⟨_, lR, ⟨r0, r1, r2, r3, r4⟩, f0, f1, f2, f3, f4⟩ := id rr
  go_wp2_with fail
  clear lR r0 r1 r2 r3 r4 f0 f1 f2 f3 f4
  have MG := mag_all (sgr l) g false _ hrd (by have := HS.out; have := sgr_le l; omega)
  rw [HMG.out] at MG
  dsimp only at MG HB HR
  refine MG.mono ?_
  rintro e w2 ⟨N, M, rfl, hN, hM, hn, ap⟩
  clear MG
  replace rr := rr.ap ap hRg
  replace ns := ns.ap ap hrd
  replace AP := AP.trans ap
  replace hrd := hn
  clear ap
  replace ns := ns.cons hN
  clear hN
  replace ns := ns.cons hM
  clear hM
  obtain ⟨_, lR, ⟨r0, r1, r2, r3, r4⟩, f0, f1, f2, f3, f4⟩ := id rr
  go_wp2_with fail
  clear lR r0 r1 r2 r3 r4 f0 f1 f2 f3 f4
  refine (wholeOf_any neg n N _ (by exact ns.at 1 rfl)).mono ?_
  rintro e w3 ⟨Z, rfl, hZ, hb⟩
  have ap := Ap.of hb hrd.1
  replace rr := rr.ap ap hRg
  replace ns := ns.ap ap hrd
  replace AP := AP.trans ap
  replace hrd := hrd.to hb
  clear ap hb
  replace ns := ns.cons hZ
  clear hZ
  obtain ⟨_, lR, ⟨r0, r1, r2, r3, r4⟩, f0, f1, f2, f3, f4⟩ := id rr
  go_wp2_with fail
  clear lR r0 r1 r2 r3 r4 f0 f1 f2 f3 f4
  have HZB : Hid (ln (ab (zi neg n)) ≤ 5098 ∧ ln n ≤ 5098 ∧ ln d ≤ 5098) := Lib.hid ⟨by rw [zi_ab]; exact HB.out.1, HB.out.1, HB.out.2⟩
  generalize zi neg n = z at *
  obtain ⟨X, hX⟩ : ∃ X : World, X = (((w3.alloc (.cells #[.int .u32 1] 45)).alloc (.cells #[.bool (sn (z)), .slice Z (ln (ab (z))) (ln (ab (z)))] 28)).alloc (.cells #[.bool false, .slice none 0 0] 28)) := ⟨_, rfl⟩
  rw [← hX]
  have hb : Below w3.heap.size w3 X := by subst hX; exact (((Below.refl _ _).alloc (Nat.le_refl _) _).alloc (by simp) _).alloc (by simp; omega) _
  have h1 : Nat32 X (some ⟨w3.heap.size, 0, none⟩) 1 := by subst hX; exact ((nat1_new _ _).alloc _).alloc _
  have U : WV X (w3.heap.size + 1) (.bool (sn (z))) (.slice Z (ln (ab (z))) (ln (ab (z)))) := by subst hX; exact ⟨by simp <;> omega, by go_simp, by go_simp, by go_simp, by go_simp⟩
  have ngu : w3.heap.size + 1 ≠ g := by have := hrd.1; omega
  have nRu : w3.heap.size + 1 ≠ w.heap.size := by have := rr.2.1; omega
  have V : WV X (w3.heap.size + 1 + 1) (.bool false) (.slice none 0 0) := by subst hX; exact ⟨by simp <;> omega, by go_simp, by go_simp, by go_simp, by go_simp⟩
  have ngv : w3.heap.size + 1 + 1 ≠ g := by have := hrd.1; omega
  have nRv : w3.heap.size + 1 + 1 ≠ w.heap.size := by have := rr.2.1; omega
  clear hX
  have hWp : W.heap.size ≤ w3.heap.size := AP.1.size
  have hgp : g ≤ w3.heap.size := Nat.le_of_lt hrd.1
  have ap := Ap.of hb hrd.1
  replace rr := rr.ap ap hRg
  replace ns := ns.ap ap hrd
  replace AP := AP.trans ap
  replace hrd := hrd.to hb
  clear ap hb
  generalize w3.heap.size = p at *
  replace ns := ns.cons h1
  clear h1
  refine (take_miss 105 [] g false _ hrd (fun x hx => by simp at hx)).mono ?_
  rintro e w4 ⟨rfl, hn, ap⟩
  replace rr := rr.ap ap hRg
  replace U := U.ap ap ngu
  replace V := V.ap ap ngv
  replace ns := ns.ap ap hrd
  replace AP := AP.trans ap
  replace hrd := hn
  clear ap
  have q0 := hrd.2.1
  have q1 := hrd.2.2.1
  have t1 : decide (0 < ((bs []).size : Int)) = false := rfl
  have t2 : decide (0 < (bs []).size) = false := rfl
  have t3 : ((ln d : Int) == 0) = false := by have := ln_pos H0.out; rw [beq_eq_false_iff_ne]; omega
  obtain ⟨_, lR, ⟨r0, r1, r2, r3, r4⟩, f0, f1, f2, f3, f4⟩ := id rr
  obtain ⟨lbu, u0, u1, zu0, zu1⟩ := id U
  obtain ⟨lbv, v0, v1, zv0, zv1⟩ := id V
  go_wp2_with fail
  clear lR r0 r1 r2 r3 r4 f0 f1 f2 f3 f4 lbu u0 u1 zu0 zu1 lbv v0 v1 zv0 zv1 q0 q1 t1 t2 t3
  go_region_held3 (fun w' => w'.cell? ⟨p + 1, 0, none⟩ = some (.bool (sn (z))) ∧ w'.cell? ⟨p + 1, 1, none⟩ = some (.slice Z (ln (ab (z))) (ln (ab (z)))) ∧ w'.cell? ⟨p + 1 + 1, 0, none⟩ = some (.bool false) ∧ w'.cell? ⟨p + 1 + 1, 1, none⟩ = some (.slice none 0 0)) (first | with_reducible exact ⟨U.c0, U.c1, V.c0, V.c1⟩ | with_reducible exact ⟨keepd U.c0, keepd U.c1, keepd V.c0, keepd V.c1⟩ | with_reducible exact ⟨(keeps (keeps (keeps (keeps (keeps U.c0 nRu) nRu) nRu) nRu) nRu), (keeps (keeps (keeps (keeps (keeps U.c1 nRu) nRu) nRu) nRu) nRu), (keeps (keeps (keeps (keeps (keeps V.c0 nRv) nRv) nRv) nRv) nRv), (keeps (keeps (keeps (keeps (keeps V.c1 nRv) nRv) nRv) nRv) nRv)⟩) (first
    | (go_at_call_of 97 (Value.slice Z (ln (ab z)) (ln (ab z))); refine (scaled_one z Z (some ⟨p, 0, none⟩) _ (by exact ns.at 1 rfl) (by exact ns.at 0 rfl) (by have := HZB.out; omega)).mono ?_; rintro e w5 ⟨Z1, rfl, hZ1, hb⟩; replace hb := undrew hb; have ap := Ap.of hb hrd.1; replace rr := rr.ap ap hRg; replace U := U.ap ap ngu; replace V := V.ap ap ngv; replace ns := ns.ap ap hrd; replace AP := AP.trans ap; replace hrd := hrd.to hb; clear ap hb)
    | (go_at_call_of 97 (Value.slice M (ln d) (ln d)); refine (scaled_zero x HX.out d M _ (by exact ns.at 2 rfl) (by have := HZB.out; omega)).mono ?_; rintro e w6 ⟨Z2, rfl, hZ2, hb⟩; have ap := Ap.of hb hrd.1; replace rr := rr.ap ap hRg; replace U := U.ap ap ngu; replace V := V.ap ap ngv; replace ns := ns.ap ap hrd; replace hZ1 := ap.nat hrd hZ1; replace AP := AP.trans ap; replace hrd := hrd.to hb; clear ap hb)
    | (go_at_call 99; refine (mul_one d M (some ⟨p, 0, none⟩) _ (by exact ns.at 2 rfl) (by exact ns.at 0 rfl) (by have := HZB.out; omega)).mono ?_; rintro e w7 ⟨Z3, rfl, hZ3, hb⟩; have ap := Ap.of hb hrd.1; replace rr := rr.ap ap hRg; replace U := U.ap ap ngu; replace V := V.ap ap ngv; replace ns := ns.ap ap hrd; replace hZ1 := ap.nat hrd hZ1; replace hZ2 := ap.nat hrd hZ2; replace AP := AP.trans ap; replace hrd := hrd.to hb; clear ap hb)
    | (go_at_call 96; refine (over_any z x d Z1 Z2 Z3 _ (by exact hZ1) (by exact hZ2) (by exact hZ3) (by have := HZB.out; omega) (by rw [HX.out]; show ln 0 ≤ _; rw [ln_zero]; omega) (by have := HZB.out; omega) H0.out).mono ?_; rintro e w8 ⟨Q1, Q2, Q3, rfl, hQ, hb⟩; have ap := Ap.of hb hrd.1; replace rr := rr.ap ap hRg; replace U := U.ap ap ngu; replace V := V.ap ap ngv; replace ns := ns.ap ap hrd; replace hZ1 := ap.nat hrd hZ1; replace hZ2 := ap.nat hrd hZ2; replace hZ3 := ap.nat hrd hZ3; replace AP := AP.trans ap; replace hrd := hrd.to hb; clear ap hb; obtain ⟨_, lR, ⟨r0, r1, r2, r3, r4⟩, f0, f1, f2, f3, f4⟩ := id rr))
  go_wp2_with fail
  replace HW := Lib.hid (HW.trans (AP.1.mono hgR))
  exact bodyPost_ret (v := .tuple #[.agg #[.bool (sn (na (fr z x d))), .slice Q1 (ln (ab (na (fr z x d)))) (ln (ab (na (fr z x d)))), .bool (sn (nb (fr z x d))), .slice Q2 (ln (ab (nb (fr z x d)))) (ln (ab (nb (fr z x d)))), .slice Q3 (ln (un (fr z x d))) (ln (un (fr z x d)))], .int .i64 0]) (by simp [results, Tryz.results84, go_sem, r0, r1, r2, r3, r4, f0, f1, f2, f3, f4]) rfl (retNumE_fin HW hQ (by omega) r0)

set_option maxHeartbeats 4000000 in
theorem parseG_real_bad (l : List UInt8) (neg : Bool) (hneg : neg = decide (l.head? = some 45)) (n d : Nat) (b1 : Bool) (rl : List UInt8) (w : World) (hm : mgP false (sgr l) = ((n, d), b1, rl)) (hs : l.length ≤ 4096) (hr1 : rl = []) (hb1 : b1 = true) :
    Calls Tryz.prog 84 #[.string (bs l)] w (RetNumE w 2 Cx.zero) := by
  have HS := Lib.hid hs
  have HMG := Lib.hid hm
  have HNG := Lib.hid hneg
  have HB := Lib.hid (mgP_ln (b := false) (l := sgr l) (K := 4098) (by have := sgr_le l; omega))
  rw [hm] at HB
  have HR := Lib.hid (mgP_len false (sgr l))
  rw [hm] at HR
  subst hr1
  subst hb1
  clear hs hm hneg
  go_enter Tryz.func84, Tryz.ntmps84
  have tl : decide (4096 < ((bs (l)).size : Int)) = false := by rw [bs_size, decide_eq_false_iff_not]; have := HS.out; omega
  go_wp2_with fail
  obtain ⟨W, hW⟩ : ∃ W : World, W = (w.alloc (.cells #[.bool false, .slice none 0 0, .bool false, .slice none 0 0, .slice none 0 0] 30)).alloc (.cells #[.string (bs (l)), .bool false] 174) := ⟨_, rfl⟩
  rw [← hW]
  have rr : NewVarN 0 w.heap.size W := by subst hW; exact ⟨Nat.zero_le _, by simp; omega, ⟨by go_simp, by go_simp, by go_simp, by go_simp, by go_simp⟩, by go_simp, by go_simp, by go_simp, by go_simp, by go_simp⟩
  have ns := NS.nil W
  have hrd : Rd W (w.heap.size + 1) (bs (l)) false := by subst hW; exact ⟨by simp, by go_simp, by go_simp, by go_simp, by go_simp⟩
  have HW : Below w.heap.size w W := by subst hW; exact ((Below.refl _ _).alloc (Nat.le_refl _) _).alloc (by simp) _
  clear hW tl
  have hRg : w.heap.size ≠ w.heap.size + 1 := by omega
  have AP : Ap (w.heap.size + 1) W W := Ap.refl _ _
  have hgR : w.heap.size ≤ w.heap.size + 1 := by omega
  generalize w.heap.size + 1 = g at *
  refine (take_list 45 l g false _ hrd).mono ?_
  rintro e w1 ⟨rfl, hn, ap⟩
  replace rr := rr.ap ap hRg
  replace ns := ns.ap ap hrd
  replace AP := AP.trans ap
  replace hrd := hn
  clear ap
  rw [sgr_def] at hrd
  rw [← HNG.out]
  obtain ⟨_, lR, ⟨r0, r1, r2, r3, r4⟩, f0, f1, f2, f3, f4⟩ := id rr
  go_wp2_with fail
  clear lR r0 r1 r2 r3 r4 f0 f1 f2 f3 f4
  have MG := mag_all (sgr l) g false _ hrd (by have := HS.out; have := sgr_le l; omega)
  rw [HMG.out] at MG
  dsimp only at MG HB HR
  refine MG.mono ?_
  rintro e w2 ⟨N, M, rfl, hN, hM, hn, ap⟩
  clear MG
  replace rr := rr.ap ap hRg
  replace ns := ns.ap ap hrd
  replace AP := AP.trans ap
  replace hrd := hn
  clear ap
  replace ns := ns.cons hN
  clear hN
  replace ns := ns.cons hM
  clear hM
  obtain ⟨_, lR, ⟨r0, r1, r2, r3, r4⟩, f0, f1, f2, f3, f4⟩ := id rr
  go_wp2_with fail
  clear lR r0 r1 r2 r3 r4 f0 f1 f2 f3 f4
  refine (wholeOf_any neg n N _ (by exact ns.at 1 rfl)).mono ?_
  rintro e w3 ⟨Z, rfl, hZ, hb⟩
  have ap := Ap.of hb hrd.1
  replace rr := rr.ap ap hRg
  replace ns := ns.ap ap hrd
  replace AP := AP.trans ap
  replace hrd := hrd.to hb
  clear ap hb
  replace ns := ns.cons hZ
  clear hZ
  obtain ⟨_, lR, ⟨r0, r1, r2, r3, r4⟩, f0, f1, f2, f3, f4⟩ := id rr
  go_wp2_with fail
  clear lR r0 r1 r2 r3 r4 f0 f1 f2 f3 f4
  have HZB : Hid (ln (ab (zi neg n)) ≤ 5098 ∧ ln n ≤ 5098 ∧ ln d ≤ 5098) := Lib.hid ⟨by rw [zi_ab]; exact HB.out.1, HB.out.1, HB.out.2⟩
  generalize zi neg n = z at *
  obtain ⟨X, hX⟩ : ∃ X : World, X = (((w3.alloc (.cells #[.int .u32 1] 45)).alloc (.cells #[.bool (sn (z)), .slice Z (ln (ab (z))) (ln (ab (z)))] 28)).alloc (.cells #[.bool false, .slice none 0 0] 28)) := ⟨_, rfl⟩
  rw [← hX]
  have hb : Below w3.heap.size w3 X := by subst hX; exact (((Below.refl _ _).alloc (Nat.le_refl _) _).alloc (by simp) _).alloc (by simp; omega) _
  have h1 : Nat32 X (some ⟨w3.heap.size, 0, none⟩) 1 := by subst hX; exact ((nat1_new _ _).alloc _).alloc _
  have U : WV X (w3.heap.size + 1) (.bool (sn (z))) (.slice Z (ln (ab (z))) (ln (ab (z)))) := by subst hX; exact ⟨by simp <;> omega, by go_simp, by go_simp, by go_simp, by go_simp⟩
  have ngu : w3.heap.size + 1 ≠ g := by have := hrd.1; omega
  have nRu : w3.heap.size + 1 ≠ w.heap.size := by have := rr.2.1; omega
  have V : WV X (w3.heap.size + 1 + 1) (.bool false) (.slice none 0 0) := by subst hX; exact ⟨by simp <;> omega, by go_simp, by go_simp, by go_simp, by go_simp⟩
  have ngv : w3.heap.size + 1 + 1 ≠ g := by have := hrd.1; omega
  have nRv : w3.heap.size + 1 + 1 ≠ w.heap.size := by have := rr.2.1; omega
  clear hX
  have hWp : W.heap.size ≤ w3.heap.size := AP.1.size
  have hgp : g ≤ w3.heap.size := Nat.le_of_lt hrd.1
  have ap := Ap.of hb hrd.1
  replace rr := rr.ap ap hRg
  replace ns := ns.ap ap hrd
  replace AP := AP.trans ap
  replace hrd := hrd.to hb
  clear ap hb
  generalize w3.heap.size = p at *
  replace ns := ns.cons h1
  clear h1
  refine (take_miss 105 [] g true _ hrd (fun x hx => by simp at hx)).mono ?_
  rintro e w4 ⟨rfl, hn, ap⟩
  replace rr := rr.ap ap hRg
  replace U := U.ap ap ngu
  replace V := V.ap ap ngv
  replace ns := ns.ap ap hrd
  replace AP := AP.trans ap
  replace hrd := hn
  clear ap
  have q0 := hrd.2.1
  have q1 := hrd.2.2.1
  have t1 : decide (0 < ((bs []).size : Int)) = false := rfl
  have t2 : decide (0 < (bs []).size) = false := rfl
  obtain ⟨_, lR, ⟨r0, r1, r2, r3, r4⟩, f0, f1, f2, f3, f4⟩ := id rr
  obtain ⟨lbu, u0, u1, zu0, zu1⟩ := id U
  obtain ⟨lbv, v0, v1, zv0, zv1⟩ := id V
  go_wp2_with fail
  clear lR r0 r1 r2 r3 r4 f0 f1 f2 f3 f4 lbu u0 u1 zu0 zu1 lbv v0 v1 zv0 zv1 q0 q1 t1 t2
  obtain ⟨_, lR, ⟨r0, r1, r2, r3, r4⟩, f0, f1, f2, f3, f4⟩ := id rr
  replace HW := Lib.hid (HW.trans (AP.1.mono hgR))
  obtain ⟨z1, z2, z3⟩ := zero_form
  refine bodyPost_ret (v := .tuple #[.agg #[.bool false, .slice none 0 0, .bool false, .slice none 0 0, .slice none 0 0], .int .i64 2]) (by simp [results, Tryz.results84, go_sem, r0, r1, r2, r3, r4, f0, f1, f2, f3, f4]) rfl ?_
  have h := retNumE_fin (k := 2) (q := Cx.zero) (A1 := none) (A2 := none) (A3 := none) HW ⟨by rw [z1]; exact fun e => absurd rfl e, by rw [z2]; exact fun e => absurd rfl e, by rw [z3]; exact fun e => absurd rfl e⟩ (by omega) r0
  rw [z1, z2, z3, sn_zero, show ab 0 = 0 from rfl, ln_zero] at h
  exact h

set_option maxHeartbeats 4000000 in
theorem parseG_real_zero (l : List UInt8) (neg : Bool) (hneg : neg = decide (l.head? = some 45)) (n d : Nat) (b1 : Bool) (rl : List UInt8) (w : World) (hm : mgP false (sgr l) = ((n, d), b1, rl)) (hs : l.length ≤ 4096) (hr1 : rl = []) (hb1 : b1 = false) (hd0 : d = 0) :
    Calls Tryz.prog 84 #[.string (bs l)] w (RetNumE w 3 Cx.zero) := by
  have HS := Lib.hid hs
  have HMG := Lib.hid hm
  have HNG := Lib.hid hneg
  have HB := Lib.hid (mgP_ln (b := false) (l := sgr l) (K := 4098) (by have := sgr_le l; omega))
  rw [hm] at HB
  have HR := Lib.hid (mgP_len false (sgr l))
  rw [hm] at HR
  subst hr1
  subst hb1
  have H0 := Lib.hid hd0
  clear hd0
  clear hs hm hneg
  go_enter Tryz.func84, Tryz.ntmps84
  have tl : decide (4096 < ((bs (l)).size : Int)) = false := by rw [bs_size, decide_eq_false_iff_not]; have := HS.out; omega
  go_wp2_with fail
  obtain ⟨W, hW⟩ : ∃ W : World, W = (w.alloc (.cells #[.bool false, .slice none 0 0, .bool false, .slice none 0 0, .slice none 0 0] 30)).alloc (.cells #[.string (bs (l)), .bool false] 174) := ⟨_, rfl⟩
  rw [← hW]
  have rr : NewVarN 0 w.heap.size W := by subst hW; exact ⟨Nat.zero_le _, by simp; omega, ⟨by go_simp, by go_simp, by go_simp, by go_simp, by go_simp⟩, by go_simp, by go_simp, by go_simp, by go_simp, by go_simp⟩
  have ns := NS.nil W
  have hrd : Rd W (w.heap.size + 1) (bs (l)) false := by subst hW; exact ⟨by simp, by go_simp, by go_simp, by go_simp, by go_simp⟩
  have HW : Below w.heap.size w W := by subst hW; exact ((Below.refl _ _).alloc (Nat.le_refl _) _).alloc (by simp) _
  clear hW tl
  have hRg : w.heap.size ≠ w.heap.size + 1 := by omega
  have AP : Ap (w.heap.size + 1) W W := Ap.refl _ _
  have hgR : w.heap.size ≤ w.heap.size + 1 := by omega
  generalize w.heap.size + 1 = g at *
  refine (take_list 45 l g false _ hrd).mono ?_
  rintro e w1 ⟨rfl, hn, ap⟩
  replace rr := rr.ap ap hRg
  replace ns := ns.ap ap hrd
  replace AP := AP.trans ap
  replace hrd := hn
  clear ap
  rw [sgr_def] at hrd
  rw [← HNG.out]
  obtain ⟨_, lR, ⟨r0, r1, r2, r3, r4⟩, f0, f1, f2, f3, f4⟩ := id rr
  go_wp2_with fail
  clear lR r0 r1 r2 r3 r4 f0 f1 f2 f3 f4
  have MG := mag_all (sgr l) g false _ hrd (by have := HS.out; have := sgr_le l; omega)
  rw [HMG.out] at MG
  dsimp only at MG HB HR
  refine MG.mono ?_
  rintro e w2 ⟨N, M, rfl, hN, hM, hn, ap⟩
  clear MG
  replace rr := rr.ap ap hRg
  replace ns := ns.ap ap hrd
  replace AP := AP.trans ap
  replace hrd := hn
  clear ap
  replace ns := ns.cons hN
  clear hN
  replace ns := ns.cons hM
  clear hM
  obtain ⟨_, lR, ⟨r0, r1, r2, r3, r4⟩, f0, f1, f2, f3, f4⟩ := id rr
  go_wp2_with fail
  clear lR r0 r1 r2 r3 r4 f0 f1 f2 f3 f4
  refine (wholeOf_any neg n N _ (by exact ns.at 1 rfl)).mono ?_
  rintro e w3 ⟨Z, rfl, hZ, hb⟩
  have ap := Ap.of hb hrd.1
  replace rr := rr.ap ap hRg
  replace ns := ns.ap ap hrd
  replace AP := AP.trans ap
  replace hrd := hrd.to hb
  clear ap hb
  replace ns := ns.cons hZ
  clear hZ
  obtain ⟨_, lR, ⟨r0, r1, r2, r3, r4⟩, f0, f1, f2, f3, f4⟩ := id rr
  go_wp2_with fail
  clear lR r0 r1 r2 r3 r4 f0 f1 f2 f3 f4
  have HZB : Hid (ln (ab (zi neg n)) ≤ 5098 ∧ ln n ≤ 5098 ∧ ln d ≤ 5098) := Lib.hid ⟨by rw [zi_ab]; exact HB.out.1, HB.out.1, HB.out.2⟩
  generalize zi neg n = z at *
  obtain ⟨X, hX⟩ : ∃ X : World, X = (((w3.alloc (.cells #[.int .u32 1] 45)).alloc (.cells #[.bool (sn (z)), .slice Z (ln (ab (z))) (ln (ab (z)))] 28)).alloc (.cells #[.bool false, .slice none 0 0] 28)) := ⟨_, rfl⟩
  rw [← hX]
  have hb : Below w3.heap.size w3 X := by subst hX; exact (((Below.refl _ _).alloc (Nat.le_refl _) _).alloc (by simp) _).alloc (by simp; omega) _
  have h1 : Nat32 X (some ⟨w3.heap.size, 0, none⟩) 1 := by subst hX; exact ((nat1_new _ _).alloc _).alloc _
  have U : WV X (w3.heap.size + 1) (.bool (sn (z))) (.slice Z (ln (ab (z))) (ln (ab (z)))) := by subst hX; exact ⟨by simp <;> omega, by go_simp, by go_simp, by go_simp, by go_simp⟩
  have ngu : w3.heap.size + 1 ≠ g := by have := hrd.1; omega
  have nRu : w3.heap.size + 1 ≠ w.heap.size := by have := rr.2.1; omega
  have V : WV X (w3.heap.size + 1 + 1) (.bool false) (.slice none 0 0) := by subst hX; exact ⟨by simp <;> omega, by go_simp, by go_simp, by go_simp, by go_simp⟩
  have ngv : w3.heap.size + 1 + 1 ≠ g := by have := hrd.1; omega
  have nRv : w3.heap.size + 1 + 1 ≠ w.heap.size := by have := rr.2.1; omega
  clear hX
  have hWp : W.heap.size ≤ w3.heap.size := AP.1.size
  have hgp : g ≤ w3.heap.size := Nat.le_of_lt hrd.1
  have ap := Ap.of hb hrd.1
  replace rr := rr.ap ap hRg
  replace ns := ns.ap ap hrd
  replace AP := AP.trans ap
  replace hrd := hrd.to hb
  clear ap hb
  generalize w3.heap.size = p at *
  replace ns := ns.cons h1
  clear h1
  refine (take_miss 105 [] g false _ hrd (fun x hx => by simp at hx)).mono ?_
  rintro e w4 ⟨rfl, hn, ap⟩
  replace rr := rr.ap ap hRg
  replace U := U.ap ap ngu
  replace V := V.ap ap ngv
  replace ns := ns.ap ap hrd
  replace AP := AP.trans ap
  replace hrd := hn
  clear ap
  have q0 := hrd.2.1
  have q1 := hrd.2.2.1
  have t1 : decide (0 < ((bs []).size : Int)) = false := rfl
  have t2 : decide (0 < (bs []).size) = false := rfl
  have t3 : ((ln d : Int) == 0) = true := by rw [H0.out, ln_zero]; rfl
  obtain ⟨_, lR, ⟨r0, r1, r2, r3, r4⟩, f0, f1, f2, f3, f4⟩ := id rr
  obtain ⟨lbu, u0, u1, zu0, zu1⟩ := id U
  obtain ⟨lbv, v0, v1, zv0, zv1⟩ := id V
  go_wp2_with fail
  clear lR r0 r1 r2 r3 r4 f0 f1 f2 f3 f4 lbu u0 u1 zu0 zu1 lbv v0 v1 zv0 zv1 q0 q1 t1 t2 t3
  obtain ⟨_, lR, ⟨r0, r1, r2, r3, r4⟩, f0, f1, f2, f3, f4⟩ := id rr
  replace HW := Lib.hid (HW.trans (AP.1.mono hgR))
  obtain ⟨z1, z2, z3⟩ := zero_form
  refine bodyPost_ret (v := .tuple #[.agg #[.bool false, .slice none 0 0, .bool false, .slice none 0 0, .slice none 0 0], .int .i64 3]) (by simp [results, Tryz.results84, go_sem, r0, r1, r2, r3, r4, f0, f1, f2, f3, f4]) rfl ?_
  have h := retNumE_fin (k := 3) (q := Cx.zero) (A1 := none) (A2 := none) (A3 := none) HW ⟨by rw [z1]; exact fun e => absurd rfl e, by rw [z2]; exact fun e => absurd rfl e, by rw [z3]; exact fun e => absurd rfl e⟩ (by omega) r0
  rw [z1, z2, z3, sn_zero, show ab 0 = 0 from rfl, ln_zero] at h
  exact h

end Go.Proofs.YtgpmlhpgdalheaaGreat

namespace Go.Proofs.YtgpmlhpgdalheaaGreat
open Go.RowKit Pl
set_option linter.unusedVariables false
set_option linter.unusedSimpArgs false

set_option maxHeartbeats 4000000 in
theorem parseG_imag_ok (l : List UInt8) (neg : Bool) (hneg : neg = decide (l.head? = some 45)) (n d : Nat) (b1 : Bool) (rl : List UInt8) (w : World) (hm : mgP false (sgr l) = ((n, d), b1, rl)) (hs : l.length ≤ 4096) (t : List UInt8) (hr1 : rl = 105 :: t) (ht : t = []) (hb1 : b1 = false) (hd0 : d ≠ 0) (x : Int) (hx : x = 0) :
    Calls Tryz.prog 84 #[.string (bs l)] w (RetNumE w 0 (fr x (zi neg n) d)) := by
  have HS := Lib.hid hs
  have HMG := Lib.hid hm
  have HNG := Lib.hid hneg
  have HB := Lib.hid (mgP_ln (b := false) (l := sgr l) (K := 4098) (by have := sgr_le l; omega))
  rw [hm] at HB
  have HR := Lib.hid (mgP_len false (sgr l))
  rw [hm] at HR
  subst hr1
  subst hb1
  subst ht
  have H0 := Lib.hid hd0
  have HX := Lib.hid hx
  clear hd0 hx
  clear hs hm hneg
  go_enter Tryz.func84, Tryz.ntmps84
  have tl : decide (4096 < ((bs (l)).size : Int)) = false := by rw [bs_size, decide_eq_false_iff_not]; have := HS.out; omega
  go_wp2_with fail
  obtain ⟨W, hW⟩ : ∃ W : World, W = (w.alloc (.cells #[.bool false, .slice none 0 0, .bool false, .slice none 0 0, .slice none 0 0] 30)).alloc (.cells #[.string (bs (l)), .bool false] 174) := ⟨_, rfl⟩
  rw [← hW]
  have rr : NewVarN 0 w.heap.size W := by subst hW; exact ⟨Nat.zero_le _, by simp; omega, ⟨by go_simp, by go_simp, by go_simp, by go_simp, by go_simp⟩, by go_simp, by go_simp, by go_simp, by go_simp, by go_simp⟩
  have ns := NS.nil W
  have hrd : Rd W (w.heap.size + 1) (bs (l)) false := by subst hW; exact ⟨by simp, by go_simp, by go_simp, by go_simp, by go_simp⟩
  have HW : Below w.heap.size w W := by subst hW; exact ((Below.refl _ _).alloc (Nat.le_refl _) _).alloc (by simp) _
  clear hW tl
  have hRg : w.heap.size ≠ w.heap.size + 1 := by omega
  have AP : Ap (w.heap.size + 1) W W := Ap.refl _ _
  have hgR : w.heap.size ≤ w.heap.size + 1 := by omega
  generalize w.heap.size + 1 = g at *
  refine (take_list 45 l g false _ hrd).mono ?_
  rintro e w1 ⟨rfl, hn, ap⟩
  replace rr := rr.ap ap hRg
  replace ns := ns.ap ap hrd
  replace AP := AP.trans ap
  replace hrd := hn
  clear ap
  rw [sgr_def] at hrd
  rw [← HNG.out]
  obtain ⟨_, lR, ⟨r0, r1, r2, r3, r4⟩, f0, f1, f2, f3, f4⟩ := id rr
  go_wp2_with fail
  clear lR r0 r1 r2 r3 r4 f0 f1 f2 f3 f4
  have MG := mag_all (sgr l) g false _ hrd (by have := HS.out; have := sgr_le l; omega)
  rw [HMG.out] at MG
  dsimp only at MG HB HR
  refine MG.mono ?_
  rintro e w2 ⟨N, M, rfl, hN, hM, hn, ap⟩
  clear MG
  replace rr := rr.ap ap hRg
  replace ns := ns.ap ap hrd
  replace AP := AP.trans ap
  replace hrd := hn
  clear ap
  replace ns := ns.cons hN
  clear hN
  replace ns := ns.cons hM
  clear hM
  obtain ⟨_, lR, ⟨r0, r1, r2, r3, r4⟩, f0, f1, f2, f3, f4⟩ := id rr
  go_wp2_with fail
  clear lR r0 r1 r2 r3 r4 f0 f1 f2 f3 f4
  refine (wholeOf_any neg n N _ (by exact ns.at 1 rfl)).mono ?_
  rintro e w3 ⟨Z, rfl, hZ, hb⟩
  have ap := Ap.of hb hrd.1
  replace rr := rr.ap ap hRg
  replace ns := ns.ap ap hrd
  replace AP := AP.trans ap
  replace hrd := hrd.to hb
  clear ap hb
  replace ns := ns.cons hZ
  clear hZ
  obtain ⟨_, lR, ⟨r0, r1, r2, r3, r4⟩, f0, f1, f2, f3, f4⟩ := id rr
  go_wp2_with fail
  clear lR r0 r1 r2 r3 r4 f0 f1 f2 f3 f4
  have HZB : Hid (ln (ab (zi neg n)) ≤ 5098 ∧ ln n ≤ 5098 ∧ ln d ≤ 5098) := Lib.hid ⟨by rw [zi_ab]; exact HB.out.1, HB.out.1, HB.out.2⟩
  generalize zi neg n = z at *
  obtain ⟨X, hX⟩ : ∃ X : World, X = (((w3.alloc (.cells #[.int .u32 1] 45)).alloc (.cells #[.bool (sn (z)), .slice Z (ln (ab (z))) (ln (ab (z)))] 28)).alloc (.cells #[.bool false, .slice none 0 0] 28)) := ⟨_, rfl⟩
  rw [← hX]
  have hb : Below w3.heap.size w3 X := by subst hX; exact (((Below.refl _ _).alloc (Nat.le_refl _) _).alloc (by simp) _).alloc (by simp; omega) _
  have h1 : Nat32 X (some ⟨w3.heap.size, 0, none⟩) 1 := by subst hX; exact ((nat1_new _ _).alloc _).alloc _
  have U : WV X (w3.heap.size + 1) (.bool (sn (z))) (.slice Z (ln (ab (z))) (ln (ab (z)))) := by subst hX; exact ⟨by simp <;> omega, by go_simp, by go_simp, by go_simp, by go_simp⟩
  have ngu : w3.heap.size + 1 ≠ g := by have := hrd.1; omega
  have nRu : w3.heap.size + 1 ≠ w.heap.size := by have := rr.2.1; omega
  have V : WV X (w3.heap.size + 1 + 1) (.bool false) (.slice none 0 0) := by subst hX; exact ⟨by simp <;> omega, by go_simp, by go_simp, by go_simp, by go_simp⟩
  have ngv : w3.heap.size + 1 + 1 ≠ g := by have := hrd.1; omega
  have nRv : w3.heap.size + 1 + 1 ≠ w.heap.size := by have := rr.2.1; omega
  clear hX
  have hWp : W.heap.size ≤ w3.heap.size := AP.1.size
  have hgp : g ≤ w3.heap.size := Nat.le_of_lt hrd.1
  have ap := Ap.of hb hrd.1
  replace rr := rr.ap ap hRg
  replace ns := ns.ap ap hrd
  replace AP := AP.trans ap
  replace hrd := hrd.to hb
  clear ap hb
  generalize w3.heap.size = p at *
  replace ns := ns.cons h1
  clear h1
  refine (take_hit 105 [] g false _ hrd).mono ?_
  rintro e w4 ⟨rfl, hn, ap⟩
  replace rr := rr.ap ap hRg
  replace U := U.ap ap ngu
  replace V := V.ap ap ngv
  replace ns := ns.ap ap hrd
  replace AP := AP.trans ap
  replace hrd := hn
  clear ap
  have q0 := hrd.2.1
  have q1 := hrd.2.2.1
  have t1 : decide (0 < ((bs []).size : Int)) = false := rfl
  have t2 : decide (0 < (bs []).size) = false := rfl
  have t3 : ((ln d : Int) == 0) = false := by have := ln_pos H0.out; rw [beq_eq_false_iff_ne]; omega
  obtain ⟨_, lR, ⟨r0, r1, r2, r3, r4⟩, f0, f1, f2, f3, f4⟩ := id rr
  obtain ⟨lbu, u0, u1, zu0, zu1⟩ := id U
  obtain ⟨lbv, v0, v1, zv0, zv1⟩ := id V
  go_wp2_with fail
  clear lR r0 r1 r2 r3 r4 f0 f1 f2 f3 f4 lbu u0 u1 zu0 zu1 lbv v0 v1 zv0 zv1 q0 q1 t1 t2 t3
  obtain ⟨X1, hX⟩ : ∃ X : World, X = w4.setCell ⟨p + 1, 0, none⟩ (.bool false) := ⟨_, rfl⟩
  rw [← hX]
  have ns_ := ns.box (i := 0) (u := .bool false) U.c0 (bool_ne _)
  have rr_ := rr.set (b := p + 1) (i := 0) (u := .bool false) (Ne.symm nRu)
  have U_ := U.put0 (u := .bool false)
  have V_ := V.set (c := p + 1) (i := 0) (u := .bool false) (by omega)
  have hrd_ := hrd.other (i := 0) (u := .bool false) ngu
  have AP_ := AP.new (R := p + 1) (i := 0) (u := .bool false) (by omega) (by omega)
  rw [← hX] at ns_ rr_ U_ V_ hrd_ AP_
  clear hX ns rr U V hrd AP
  have ns := ns_
  have rr := rr_
  have U := U_
  have V := V_
  have hrd := hrd_
  have AP := AP_
  clear ns_ rr_ U_ V_ hrd_ AP_
  obtain ⟨X2, hX⟩ : ∃ X : World, X = X1.setCell ⟨p + 1, 1, none⟩ (.slice none 0 0) := ⟨_, rfl⟩
  rw [← hX]
  have ns_ := ns.box (i := 1) (u := .slice none 0 0) U.c0 (bool_ne _)
  have rr_ := rr.set (b := p + 1) (i := 1) (u := .slice none 0 0) (Ne.symm nRu)
  have U_ := U.put1 (u := .slice none 0 0)
  have V_ := V.set (c := p + 1) (i := 1) (u := .slice none 0 0) (by omega)
  have hrd_ := hrd.other (i := 1) (u := .slice none 0 0) ngu
  have AP_ := AP.new (R := p + 1) (i := 1) (u := .slice none 0 0) (by omega) (by omega)
  rw [← hX] at ns_ rr_ U_ V_ hrd_ AP_
  clear hX ns rr U V hrd AP
  have ns := ns_
  have rr := rr_
  have U := U_
  have V := V_
  have hrd := hrd_
  have AP := AP_
  clear ns_ rr_ U_ V_ hrd_ AP_
  obtain ⟨X3, hX⟩ : ∃ X : World, X = X2.setCell ⟨p + 1 + 1, 0, none⟩ (.bool (sn z)) := ⟨_, rfl⟩
  rw [← hX]
  have ns_ := ns.box (i := 0) (u := .bool (sn z)) V.c0 (bool_ne _)
  have rr_ := rr.set (b := p + 1 + 1) (i := 0) (u := .bool (sn z)) (Ne.symm nRv)
  have U_ := U.set (c := p + 1 + 1) (i := 0) (u := .bool (sn z)) (by omega)
  have V_ := V.put0 (u := .bool (sn z))
  have hrd_ := hrd.other (i := 0) (u := .bool (sn z)) ngv
  have AP_ := AP.new (R := p + 1 + 1) (i := 0) (u := .bool (sn z)) (by omega) (by omega)
  rw [← hX] at ns_ rr_ U_ V_ hrd_ AP_
  clear hX ns rr U V hrd AP
  have ns := ns_
  have rr := rr_
  have U := U_
  have V := V_
  have hrd := hrd_
  have AP := AP_
  clear ns_ rr_ U_ V_ hrd_ AP_
  obtain ⟨X4, hX⟩ : ∃ X : World, X = X3.setCell ⟨p + 1 + 1, 1, none⟩ (.slice Z (ln (ab z)) (ln (ab z))) := ⟨_, rfl⟩
  rw [← hX]
  have ns_ := ns.box (i := 1) (u := .slice Z (ln (ab z)) (ln (ab z))) V.c0 (bool_ne _)
  have rr_ := rr.set (b := p + 1 + 1) (i := 1) (u := .slice Z (ln (ab z)) (ln (ab z))) (Ne.symm nRv)
  have U_ := U.set (c := p + 1 + 1) (i := 1) (u := .slice Z (ln (ab z)) (ln (ab z))) (by omega)
  have V_ := V.put1 (u := .slice Z (ln (ab z)) (ln (ab z)))
  have hrd_ := hrd.other (i := 1) (u := .slice Z (ln (ab z)) (ln (ab z))) ngv
  have AP_ := AP.new (R := p + 1 + 1) (i := 1) (u := .slice Z (ln (ab z)) (ln (ab z))) (by omega) (by omega)
  rw [← hX] at ns_ rr_ U_ V_ hrd_ AP_
  clear hX ns rr U V hrd AP
  have ns := ns_
  have rr := rr_
  have U := U_
  have V := V_
  have hrd := hrd_
  have AP := AP_
  clear ns_ rr_ U_ V_ hrd_ AP_
  go_region_held3 (fun w' => w'.cell? ⟨p + 1, 0, none⟩ = some (.bool false) ∧ w'.cell? ⟨p + 1, 1, none⟩ = some (.slice none 0 0) ∧ w'.cell? ⟨p + 1 + 1, 0, none⟩ = some (.bool (sn z)) ∧ w'.cell? ⟨p + 1 + 1, 1, none⟩ = some (.slice Z (ln (ab z)) (ln (ab z)))) (first | with_reducible exact ⟨U.c0, U.c1, V.c0, V.c1⟩ | with_reducible exact ⟨keepd U.c0, keepd U.c1, keepd V.c0, keepd V.c1⟩ | with_reducible exact ⟨(keeps (keeps (keeps (keeps (keeps U.c0 nRu) nRu) nRu) nRu) nRu), (keeps (keeps (keeps (keeps (keeps U.c1 nRu) nRu) nRu) nRu) nRu), (keeps (keeps (keeps (keeps (keeps V.c0 nRv) nRv) nRv) nRv) nRv), (keeps (keeps (keeps (keeps (keeps V.c1 nRv) nRv) nRv) nRv) nRv)⟩) (first
    | (go_at_call_of 97 (Value.slice M (ln d) (ln d)); refine (scaled_zero x HX.out d M _ (by exact ns.at 2 rfl) (by have := HZB.out; omega)).mono ?_; rintro e w5 ⟨Z2, rfl, hZ2, hb⟩; replace hb := undrew hb; have ap := Ap.of hb hrd.1; replace rr := rr.ap ap hRg; replace U := U.ap ap ngu; replace V := V.ap ap ngv; replace ns := ns.ap ap hrd; replace AP := AP.trans ap; replace hrd := hrd.to hb; clear ap hb)
    | (go_at_call_of 97 (Value.slice Z (ln (ab z)) (ln (ab z))); refine (scaled_one z Z (some ⟨p, 0, none⟩) _ (by exact ns.at 1 rfl) (by exact ns.at 0 rfl) (by have := HZB.out; omega)).mono ?_; rintro e w6 ⟨Z1, rfl, hZ1, hb⟩; have ap := Ap.of hb hrd.1; replace rr := rr.ap ap hRg; replace U := U.ap ap ngu; replace V := V.ap ap ngv; replace ns := ns.ap ap hrd; replace hZ2 := ap.nat hrd hZ2; replace AP := AP.trans ap; replace hrd := hrd.to hb; clear ap hb)
    | (go_at_call 99; refine (one_mul' d M (some ⟨p, 0, none⟩) _ (by exact ns.at 2 rfl) (by exact ns.at 0 rfl) (by have := HZB.out; omega)).mono ?_; rintro e w7 ⟨Z3, rfl, hZ3, hb⟩; have ap := Ap.of hb hrd.1; replace rr := rr.ap ap hRg; replace U := U.ap ap ngu; replace V := V.ap ap ngv; replace ns := ns.ap ap hrd; replace hZ2 := ap.nat hrd hZ2; replace hZ1 := ap.nat hrd hZ1; replace AP := AP.trans ap; replace hrd := hrd.to hb; clear ap hb)
    | (go_at_call 96; refine (over_any x z d Z2 Z1 Z3 _ (by exact hZ2) (by exact hZ1) (by exact hZ3) (by rw [HX.out]; show ln 0 ≤ _; rw [ln_zero]; omega) (by have := HZB.out; omega) (by have := HZB.out; omega) H0.out).mono ?_; rintro e w8 ⟨Q1, Q2, Q3, rfl, hQ, hb⟩; have ap := Ap.of hb hrd.1; replace rr := rr.ap ap hRg; replace U := U.ap ap ngu; replace V := V.ap ap ngv; replace ns := ns.ap ap hrd; replace hZ2 := ap.nat hrd hZ2; replace hZ1 := ap.nat hrd hZ1; replace hZ3 := ap.nat hrd hZ3; replace AP := AP.trans ap; replace hrd := hrd.to hb; clear ap hb; obtain ⟨_, lR, ⟨r0, r1, r2, r3, r4⟩, f0, f1, f2, f3, f4⟩ := id rr))
  go_wp2_with fail
  replace HW := Lib.hid (HW.trans (AP.1.mono hgR))
  exact bodyPost_ret (v := .tuple #[.agg #[.bool (sn (na (fr x z d))), .slice Q1 (ln (ab (na (fr x z d)))) (ln (ab (na (fr x z d)))), .bool (sn (nb (fr x z d))), .slice Q2 (ln (ab (nb (fr x z d)))) (ln (ab (nb (fr x z d)))), .slice Q3 (ln (un (fr x z d))) (ln (un (fr x z d)))], .int .i64 0]) (by simp [results, Tryz.results84, go_sem, r0, r1, r2, r3, r4, f0, f1, f2, f3, f4]) rfl (retNumE_fin HW hQ (by omega) r0)

set_option maxHeartbeats 4000000 in
theorem parseG_imag_bad (l : List UInt8) (neg : Bool) (hneg : neg = decide (l.head? = some 45)) (n d : Nat) (b1 : Bool) (rl : List UInt8) (w : World) (hm : mgP false (sgr l) = ((n, d), b1, rl)) (hs : l.length ≤ 4096) (t : List UInt8) (hr1 : rl = 105 :: t) (hb1 : b1 = true) :
    Calls Tryz.prog 84 #[.string (bs l)] w (RetNumE w 2 Cx.zero) := by
  have HS := Lib.hid hs
  have HMG := Lib.hid hm
  have HNG := Lib.hid hneg
  have HB := Lib.hid (mgP_ln (b := false) (l := sgr l) (K := 4098) (by have := sgr_le l; omega))
  rw [hm] at HB
  have HR := Lib.hid (mgP_len false (sgr l))
  rw [hm] at HR
  subst hr1
  subst hb1
  clear hs hm hneg
  go_enter Tryz.func84, Tryz.ntmps84
  have tl : decide (4096 < ((bs (l)).size : Int)) = false := by rw [bs_size, decide_eq_false_iff_not]; have := HS.out; omega
  go_wp2_with fail
  obtain ⟨W, hW⟩ : ∃ W : World, W = (w.alloc (.cells #[.bool false, .slice none 0 0, .bool false, .slice none 0 0, .slice none 0 0] 30)).alloc (.cells #[.string (bs (l)), .bool false] 174) := ⟨_, rfl⟩
  rw [← hW]
  have rr : NewVarN 0 w.heap.size W := by subst hW; exact ⟨Nat.zero_le _, by simp; omega, ⟨by go_simp, by go_simp, by go_simp, by go_simp, by go_simp⟩, by go_simp, by go_simp, by go_simp, by go_simp, by go_simp⟩
  have ns := NS.nil W
  have hrd : Rd W (w.heap.size + 1) (bs (l)) false := by subst hW; exact ⟨by simp, by go_simp, by go_simp, by go_simp, by go_simp⟩
  have HW : Below w.heap.size w W := by subst hW; exact ((Below.refl _ _).alloc (Nat.le_refl _) _).alloc (by simp) _
  clear hW tl
  have hRg : w.heap.size ≠ w.heap.size + 1 := by omega
  have AP : Ap (w.heap.size + 1) W W := Ap.refl _ _
  have hgR : w.heap.size ≤ w.heap.size + 1 := by omega
  generalize w.heap.size + 1 = g at *
  refine (take_list 45 l g false _ hrd).mono ?_
  rintro e w1 ⟨rfl, hn, ap⟩
  replace rr := rr.ap ap hRg
  replace ns := ns.ap ap hrd
  replace AP := AP.trans ap
  replace hrd := hn
  clear ap
  rw [sgr_def] at hrd
  rw [← HNG.out]
  obtain ⟨_, lR, ⟨r0, r1, r2, r3, r4⟩, f0, f1, f2, f3, f4⟩ := id rr
  go_wp2_with fail
  clear lR r0 r1 r2 r3 r4 f0 f1 f2 f3 f4
  have MG := mag_all (sgr l) g false _ hrd (by have := HS.out; have := sgr_le l; omega)
  rw [HMG.out] at MG
  dsimp only at MG HB HR
  refine MG.mono ?_
  rintro e w2 ⟨N, M, rfl, hN, hM, hn, ap⟩
  clear MG
  replace rr := rr.ap ap hRg
  replace ns := ns.ap ap hrd
  replace AP := AP.trans ap
  replace hrd := hn
  clear ap
  replace ns := ns.cons hN
  clear hN
  replace ns := ns.cons hM
  clear hM
  obtain ⟨_, lR, ⟨r0, r1, r2, r3, r4⟩, f0, f1, f2, f3, f4⟩ := id rr
  go_wp2_with fail
  clear lR r0 r1 r2 r3 r4 f0 f1 f2 f3 f4
  refine (wholeOf_any neg n N _ (by exact ns.at 1 rfl)).mono ?_
  rintro e w3 ⟨Z, rfl, hZ, hb⟩
  have ap := Ap.of hb hrd.1
  replace rr := rr.ap ap hRg
  replace ns := ns.ap ap hrd
  replace AP := AP.trans ap
  replace hrd := hrd.to hb
  clear ap hb
  replace ns := ns.cons hZ
  clear hZ
  obtain ⟨_, lR, ⟨r0, r1, r2, r3, r4⟩, f0, f1, f2, f3, f4⟩ := id rr
  go_wp2_with fail
  clear lR r0 r1 r2 r3 r4 f0 f1 f2 f3 f4
  have HZB : Hid (ln (ab (zi neg n)) ≤ 5098 ∧ ln n ≤ 5098 ∧ ln d ≤ 5098) := Lib.hid ⟨by rw [zi_ab]; exact HB.out.1, HB.out.1, HB.out.2⟩
  generalize zi neg n = z at *
  obtain ⟨X, hX⟩ : ∃ X : World, X = (((w3.alloc (.cells #[.int .u32 1] 45)).alloc (.cells #[.bool (sn (z)), .slice Z (ln (ab (z))) (ln (ab (z)))] 28)).alloc (.cells #[.bool false, .slice none 0 0] 28)) := ⟨_, rfl⟩
  rw [← hX]
  have hb : Below w3.heap.size w3 X := by subst hX; exact (((Below.refl _ _).alloc (Nat.le_refl _) _).alloc (by simp) _).alloc (by simp; omega) _
  have h1 : Nat32 X (some ⟨w3.heap.size, 0, none⟩) 1 := by subst hX; exact ((nat1_new _ _).alloc _).alloc _
  have U : WV X (w3.heap.size + 1) (.bool (sn (z))) (.slice Z (ln (ab (z))) (ln (ab (z)))) := by subst hX; exact ⟨by simp <;> omega, by go_simp, by go_simp, by go_simp, by go_simp⟩
  have ngu : w3.heap.size + 1 ≠ g := by have := hrd.1; omega
  have nRu : w3.heap.size + 1 ≠ w.heap.size := by have := rr.2.1; omega
  have V : WV X (w3.heap.size + 1 + 1) (.bool false) (.slice none 0 0) := by subst hX; exact ⟨by simp <;> omega, by go_simp, by go_simp, by go_simp, by go_simp⟩
  have ngv : w3.heap.size + 1 + 1 ≠ g := by have := hrd.1; omega
  have nRv : w3.heap.size + 1 + 1 ≠ w.heap.size := by have := rr.2.1; omega
  clear hX
  have hWp : W.heap.size ≤ w3.heap.size := AP.1.size
  have hgp : g ≤ w3.heap.size := Nat.le_of_lt hrd.1
  have ap := Ap.of hb hrd.1
  replace rr := rr.ap ap hRg
  replace ns := ns.ap ap hrd
  replace AP := AP.trans ap
  replace hrd := hrd.to hb
  clear ap hb
  generalize w3.heap.size = p at *
  replace ns := ns.cons h1
  clear h1
  refine (take_hit 105 t g true _ hrd).mono ?_
  rintro e w4 ⟨rfl, hn, ap⟩
  replace rr := rr.ap ap hRg
  replace U := U.ap ap ngu
  replace V := V.ap ap ngv
  replace ns := ns.ap ap hrd
  replace AP := AP.trans ap
  replace hrd := hn
  clear ap
  have q0 := hrd.2.1
  have q1 := hrd.2.2.1
  obtain ⟨_, lR, ⟨r0, r1, r2, r3, r4⟩, f0, f1, f2, f3, f4⟩ := id rr
  obtain ⟨lbu, u0, u1, zu0, zu1⟩ := id U
  obtain ⟨lbv, v0, v1, zv0, zv1⟩ := id V
  go_wp2_with fail
  clear lR r0 r1 r2 r3 r4 f0 f1 f2 f3 f4 lbu u0 u1 zu0 zu1 lbv v0 v1 zv0 zv1 q0 q1
  obtain ⟨X1, hX⟩ : ∃ X : World, X = w4.setCell ⟨p + 1, 0, none⟩ (.bool false) := ⟨_, rfl⟩
  rw [← hX]
  have ns_ := ns.box (i := 0) (u := .bool false) U.c0 (bool_ne _)
  have rr_ := rr.set (b := p + 1) (i := 0) (u := .bool false) (Ne.symm nRu)
  have U_ := U.put0 (u := .bool false)
  have V_ := V.set (c := p + 1) (i := 0) (u := .bool false) (by omega)
  have hrd_ := hrd.other (i := 0) (u := .bool false) ngu
  have AP_ := AP.new (R := p + 1) (i := 0) (u := .bool false) (by omega) (by omega)
  rw [← hX] at ns_ rr_ U_ V_ hrd_ AP_
  clear hX ns rr U V hrd AP
  have ns := ns_
  have rr := rr_
  have U := U_
  have V := V_
  have hrd := hrd_
  have AP := AP_
  clear ns_ rr_ U_ V_ hrd_ AP_
  obtain ⟨X2, hX⟩ : ∃ X : World, X = X1.setCell ⟨p + 1, 1, none⟩ (.slice none 0 0) := ⟨_, rfl⟩
  rw [← hX]
  have ns_ := ns.box (i := 1) (u := .slice none 0 0) U.c0 (bool_ne _)
  have rr_ := rr.set (b := p + 1) (i := 1) (u := .slice none 0 0) (Ne.symm nRu)
  have U_ := U.put1 (u := .slice none 0 0)
  have V_ := V.set (c := p + 1) (i := 1) (u := .slice none 0 0) (by omega)
  have hrd_ := hrd.other (i := 1) (u := .slice none 0 0) ngu
  have AP_ := AP.new (R := p + 1) (i := 1) (u := .slice none 0 0) (by omega) (by omega)
  rw [← hX] at ns_ rr_ U_ V_ hrd_ AP_
  clear hX ns rr U V hrd AP
  have ns := ns_
  have rr := rr_
  have U := U_
  have V := V_
  have hrd := hrd_
  have AP := AP_
  clear ns_ rr_ U_ V_ hrd_ AP_
  obtain ⟨X3, hX⟩ : ∃ X : World, X = X2.setCell ⟨p + 1 + 1, 0, none⟩ (.bool (sn z)) := ⟨_, rfl⟩
  rw [← hX]
  have ns_ := ns.box (i := 0) (u := .bool (sn z)) V.c0 (bool_ne _)
  have rr_ := rr.set (b := p + 1 + 1) (i := 0) (u := .bool (sn z)) (Ne.symm nRv)
  have U_ := U.set (c := p + 1 + 1) (i := 0) (u := .bool (sn z)) (by omega)
  have V_ := V.put0 (u := .bool (sn z))
  have hrd_ := hrd.other (i := 0) (u := .bool (sn z)) ngv
  have AP_ := AP.new (R := p + 1 + 1) (i := 0) (u := .bool (sn z)) (by omega) (by omega)
  rw [← hX] at ns_ rr_ U_ V_ hrd_ AP_
  clear hX ns rr U V hrd AP
  have ns := ns_
  have rr := rr_
  have U := U_
  have V := V_
  have hrd := hrd_
  have AP := AP_
  clear ns_ rr_ U_ V_ hrd_ AP_
  obtain ⟨X4, hX⟩ : ∃ X : World, X = X3.setCell ⟨p + 1 + 1, 1, none⟩ (.slice Z (ln (ab z)) (ln (ab z))) := ⟨_, rfl⟩
  rw [← hX]
  have ns_ := ns.box (i := 1) (u := .slice Z (ln (ab z)) (ln (ab z))) V.c0 (bool_ne _)
  have rr_ := rr.set (b := p + 1 + 1) (i := 1) (u := .slice Z (ln (ab z)) (ln (ab z))) (Ne.symm nRv)
  have U_ := U.set (c := p + 1 + 1) (i := 1) (u := .slice Z (ln (ab z)) (ln (ab z))) (by omega)
  have V_ := V.put1 (u := .slice Z (ln (ab z)) (ln (ab z)))
  have hrd_ := hrd.other (i := 1) (u := .slice Z (ln (ab z)) (ln (ab z))) ngv
  have AP_ := AP.new (R := p + 1 + 1) (i := 1) (u := .slice Z (ln (ab z)) (ln (ab z))) (by omega) (by omega)
  rw [← hX] at ns_ rr_ U_ V_ hrd_ AP_
  clear hX ns rr U V hrd AP
  have ns := ns_
  have rr := rr_
  have U := U_
  have V := V_
  have hrd := hrd_
  have AP := AP_
  clear ns_ rr_ U_ V_ hrd_ AP_
  obtain ⟨_, lR, ⟨r0, r1, r2, r3, r4⟩, f0, f1, f2, f3, f4⟩ := id rr
  replace HW := Lib.hid (HW.trans (AP.1.mono hgR))
  obtain ⟨z1, z2, z3⟩ := zero_form
  refine bodyPost_ret (v := .tuple #[.agg #[.bool false, .slice none 0 0, .bool false, .slice none 0 0, .slice none 0 0], .int .i64 2]) (by simp [results, Tryz.results84, go_sem, r0, r1, r2, r3, r4, f0, f1, f2, f3, f4]) rfl ?_
  have h := retNumE_fin (k := 2) (q := Cx.zero) (A1 := none) (A2 := none) (A3 := none) HW ⟨by rw [z1]; exact fun e => absurd rfl e, by rw [z2]; exact fun e => absurd rfl e, by rw [z3]; exact fun e => absurd rfl e⟩ (by omega) r0
  rw [z1, z2, z3, sn_zero, show ab 0 = 0 from rfl, ln_zero] at h
  exact h

set_option maxHeartbeats 4000000 in
theorem parseG_imag_rest (l : List UInt8) (neg : Bool) (hneg : neg = decide (l.head? = some 45)) (n d : Nat) (b1 : Bool) (rl : List UInt8) (w : World) (hm : mgP false (sgr l) = ((n, d), b1, rl)) (hs : l.length ≤ 4096) (t : List UInt8) (hr1 : rl = 105 :: t) (ht : t ≠ []) (hb1 : b1 = false) :
    Calls Tryz.prog 84 #[.string (bs l)] w (RetNumE w 2 Cx.zero) := by
  have HS := Lib.hid hs
  have HMG := Lib.hid hm
  have HNG := Lib.hid hneg
  have HB := Lib.hid (mgP_ln (b := false) (l := sgr l) (K := 4098) (by have := sgr_le l; omega))
  rw [hm] at HB
  have HR := Lib.hid (mgP_len false (sgr l))
  rw [hm] at HR
  subst hr1
  subst hb1
  have HT := Lib.hid ht
  clear ht
  clear hs hm hneg
  go_enter Tryz.func84, Tryz.ntmps84
  have tl : decide (4096 < ((bs (l)).size : Int)) = false := by rw [bs_size, decide_eq_false_iff_not]; have := HS.out; omega
  go_wp2_with fail
  obtain ⟨W, hW⟩ : ∃ W : World, W = (w.alloc (.cells #[.bool false, .slice none 0 0, .bool false, .slice none 0 0, .slice none 0 0] 30)).alloc (.cells #[.string (bs (l)), .bool false] 174) := ⟨_, rfl⟩
  rw [← hW]
  have rr : NewVarN 0 w.heap.size W := by subst hW; exact ⟨Nat.zero_le _, by simp; omega, ⟨by go_simp, by go_simp, by go_simp, by go_simp, by go_simp⟩, by go_simp, by go_simp, by go_simp, by go_simp, by go_simp⟩
  have ns := NS.nil W
  have hrd : Rd W (w.heap.size + 1) (bs (l)) false := by subst hW; exact ⟨by simp, by go_simp, by go_simp, by go_simp, by go_simp⟩
  have HW : Below w.heap.size w W := by subst hW; exact ((Below.refl _ _).alloc (Nat.le_refl _) _).alloc (by simp) _
  clear hW tl
  have hRg : w.heap.size ≠ w.heap.size + 1 := by omega
  have AP : Ap (w.heap.size + 1) W W := Ap.refl _ _
  have hgR : w.heap.size ≤ w.heap.size + 1 := by omega
  generalize w.heap.size + 1 = g at *
  refine (take_list 45 l g false _ hrd).mono ?_
  rintro e w1 ⟨rfl, hn, ap⟩
  replace rr := rr.ap ap hRg
  replace ns := ns.ap ap hrd
  replace AP := AP.trans ap
  replace hrd := hn
  clear ap
  rw [sgr_def] at hrd
  rw [← HNG.out]
  obtain ⟨_, lR, ⟨r0, r1, r2, r3, r4⟩, f0, f1, f2, f3, f4⟩ := id rr
  go_wp2_with fail
  clear lR r0 r1 r2 r3 r4 f0 f1 f2 f3 f4
  have MG := mag_all (sgr l) g false _ hrd (by have := HS.out; have := sgr_le l; omega)
  rw [HMG.out] at MG
  dsimp only at MG HB HR
  refine MG.mono ?_
  rintro e w2 ⟨N, M, rfl, hN, hM, hn, ap⟩
  clear MG
  replace rr := rr.ap ap hRg
  replace ns := ns.ap ap hrd
  replace AP := AP.trans ap
  replace hrd := hn
  clear ap
  replace ns := ns.cons hN
  clear hN
  replace ns := ns.cons hM
  clear hM
  obtain ⟨_, lR, ⟨r0, r1, r2, r3, r4⟩, f0, f1, f2, f3, f4⟩ := id rr
  go_wp2_with fail
  clear lR r0 r1 r2 r3 r4 f0 f1 f2 f3 f4
  refine (wholeOf_any neg n N _ (by exact ns.at 1 rfl)).mono ?_
  rintro e w3 ⟨Z, rfl, hZ, hb⟩
  have ap := Ap.of hb hrd.1
  replace rr := rr.ap ap hRg
  replace ns := ns.ap ap hrd
  replace AP := AP.trans ap
  replace hrd := hrd.to hb
  clear ap hb
  replace ns := ns.cons hZ
  clear hZ
  obtain ⟨_, lR, ⟨r0, r1, r2, r3, r4⟩, f0, f1, f2, f3, f4⟩ := id rr
  go_wp2_with fail
  clear lR r0 r1 r2 r3 r4 f0 f1 f2 f3 f4
  have HZB : Hid (ln (ab (zi neg n)) ≤ 5098 ∧ ln n ≤ 5098 ∧ ln d ≤ 5098) := Lib.hid ⟨by rw [zi_ab]; exact HB.out.1, HB.out.1, HB.out.2⟩
  generalize zi neg n = z at *
  obtain ⟨X, hX⟩ : ∃ X : World, X = (((w3.alloc (.cells #[.int .u32 1] 45)).alloc (.cells #[.bool (sn (z)), .slice Z (ln (ab (z))) (ln (ab (z)))] 28)).alloc (.cells #[.bool false, .slice none 0 0] 28)) := ⟨_, rfl⟩
  rw [← hX]
  have hb : Below w3.heap.size w3 X := by subst hX; exact (((Below.refl _ _).alloc (Nat.le_refl _) _).alloc (by simp) _).alloc (by simp; omega) _
  have h1 : Nat32 X (some ⟨w3.heap.size, 0, none⟩) 1 := by subst hX; exact ((nat1_new _ _).alloc _).alloc _
  have U : WV X (w3.heap.size + 1) (.bool (sn (z))) (.slice Z (ln (ab (z))) (ln (ab (z)))) := by subst hX; exact ⟨by simp <;> omega, by go_simp, by go_simp, by go_simp, by go_simp⟩
  have ngu : w3.heap.size + 1 ≠ g := by have := hrd.1; omega
  have nRu : w3.heap.size + 1 ≠ w.heap.size := by have := rr.2.1; omega
  have V : WV X (w3.heap.size + 1 + 1) (.bool false) (.slice none 0 0) := by subst hX; exact ⟨by simp <;> omega, by go_simp, by go_simp, by go_simp, by go_simp⟩
  have ngv : w3.heap.size + 1 + 1 ≠ g := by have := hrd.1; omega
  have nRv : w3.heap.size + 1 + 1 ≠ w.heap.size := by have := rr.2.1; omega
  clear hX
  have hWp : W.heap.size ≤ w3.heap.size := AP.1.size
  have hgp : g ≤ w3.heap.size := Nat.le_of_lt hrd.1
  have ap := Ap.of hb hrd.1
  replace rr := rr.ap ap hRg
  replace ns := ns.ap ap hrd
  replace AP := AP.trans ap
  replace hrd := hrd.to hb
  clear ap hb
  generalize w3.heap.size = p at *
  replace ns := ns.cons h1
  clear h1
  refine (take_hit 105 t g false _ hrd).mono ?_
  rintro e w4 ⟨rfl, hn, ap⟩
  replace rr := rr.ap ap hRg
  replace U := U.ap ap ngu
  replace V := V.ap ap ngv
  replace ns := ns.ap ap hrd
  replace AP := AP.trans ap
  replace hrd := hn
  clear ap
  have q0 := hrd.2.1
  have q1 := hrd.2.2.1
  have t1 : decide (0 < ((bs t).size : Int)) = true := by rw [bs_size, decide_eq_true_iff]; have := List.length_pos_iff.2 HT.out; omega
  have t2 : decide (0 < (bs t).size) = true := by rw [bs_size, decide_eq_true_iff]; exact List.length_pos_iff.2 HT.out
  obtain ⟨_, lR, ⟨r0, r1, r2, r3, r4⟩, f0, f1, f2, f3, f4⟩ := id rr
  obtain ⟨lbu, u0, u1, zu0, zu1⟩ := id U
  obtain ⟨lbv, v0, v1, zv0, zv1⟩ := id V
  go_wp2_with fail
  clear lR r0 r1 r2 r3 r4 f0 f1 f2 f3 f4 lbu u0 u1 zu0 zu1 lbv v0 v1 zv0 zv1 q0 q1 t1 t2
  obtain ⟨X1, hX⟩ : ∃ X : World, X = w4.setCell ⟨p + 1, 0, none⟩ (.bool false) := ⟨_, rfl⟩
  rw [← hX]
  have ns_ := ns.box (i := 0) (u := .bool false) U.c0 (bool_ne _)
  have rr_ := rr.set (b := p + 1) (i := 0) (u := .bool false) (Ne.symm nRu)
  have U_ := U.put0 (u := .bool false)
  have V_ := V.set (c := p + 1) (i := 0) (u := .bool false) (by omega)
  have hrd_ := hrd.other (i := 0) (u := .bool false) ngu
  have AP_ := AP.new (R := p + 1) (i := 0) (u := .bool false) (by omega) (by omega)
  rw [← hX] at ns_ rr_ U_ V_ hrd_ AP_
  clear hX ns rr U V hrd AP
  have ns := ns_
  have rr := rr_
  have U := U_
  have V := V_
  have hrd := hrd_
  have AP := AP_
  clear ns_ rr_ U_ V_ hrd_ AP_
  obtain ⟨X2, hX⟩ : ∃ X : World, X = X1.setCell ⟨p + 1, 1, none⟩ (.slice none 0 0) := ⟨_, rfl⟩
  rw [← hX]
  have ns_ := ns.box (i := 1) (u := .slice none 0 0) U.c0 (bool_ne _)
  have rr_ := rr.set (b := p + 1) (i := 1) (u := .slice none 0 0) (Ne.symm nRu)
  have U_ := U.put1 (u := .slice none 0 0)
  have V_ := V.set (c := p + 1) (i := 1) (u := .slice none 0 0) (by omega)
  have hrd_ := hrd.other (i := 1) (u := .slice none 0 0) ngu
  have AP_ := AP.new (R := p + 1) (i := 1) (u := .slice none 0 0) (by omega) (by omega)
  rw [← hX] at ns_ rr_ U_ V_ hrd_ AP_
  clear hX ns rr U V hrd AP
  have ns := ns_
  have rr := rr_
  have U := U_
  have V := V_
  have hrd := hrd_
  have AP := AP_
  clear ns_ rr_ U_ V_ hrd_ AP_
  obtain ⟨X3, hX⟩ : ∃ X : World, X = X2.setCell ⟨p + 1 + 1, 0, none⟩ (.bool (sn z)) := ⟨_, rfl⟩
  rw [← hX]
  have ns_ := ns.box (i := 0) (u := .bool (sn z)) V.c0 (bool_ne _)
  have rr_ := rr.set (b := p + 1 + 1) (i := 0) (u := .bool (sn z)) (Ne.symm nRv)
  have U_ := U.set (c := p + 1 + 1) (i := 0) (u := .bool (sn z)) (by omega)
  have V_ := V.put0 (u := .bool (sn z))
  have hrd_ := hrd.other (i := 0) (u := .bool (sn z)) ngv
  have AP_ := AP.new (R := p + 1 + 1) (i := 0) (u := .bool (sn z)) (by omega) (by omega)
  rw [← hX] at ns_ rr_ U_ V_ hrd_ AP_
  clear hX ns rr U V hrd AP
  have ns := ns_
  have rr := rr_
  have U := U_
  have V := V_
  have hrd := hrd_
  have AP := AP_
  clear ns_ rr_ U_ V_ hrd_ AP_
  obtain ⟨X4, hX⟩ : ∃ X : World, X = X3.setCell ⟨p + 1 + 1, 1, none⟩ (.slice Z (ln (ab z)) (ln (ab z))) := ⟨_, rfl⟩
  rw [← hX]
  have ns_ := ns.box (i := 1) (u := .slice Z (ln (ab z)) (ln (ab z))) V.c0 (bool_ne _)
  have rr_ := rr.set (b := p + 1 + 1) (i := 1) (u := .slice Z (ln (ab z)) (ln (ab z))) (Ne.symm nRv)
  have U_ := U.set (c := p + 1 + 1) (i := 1) (u := .slice Z (ln (ab z)) (ln (ab z))) (by omega)
  have V_ := V.put1 (u := .slice Z (ln (ab z)) (ln (ab z)))
  have hrd_ := hrd.other (i := 1) (u := .slice Z (ln (ab z)) (ln (ab z))) ngv
  have AP_ := AP.new (R := p + 1 + 1) (i := 1) (u := .slice Z (ln (ab z)) (ln (ab z))) (by omega) (by omega)
  rw [← hX] at ns_ rr_ U_ V_ hrd_ AP_
  clear hX ns rr U V hrd AP
  have ns := ns_
  have rr := rr_
  have U := U_
  have V := V_
  have hrd := hrd_
  have AP := AP_
  clear ns_ rr_ U_ V_ hrd_ AP_
  obtain ⟨_, lR, ⟨r0, r1, r2, r3, r4⟩, f0, f1, f2, f3, f4⟩ := id rr
  replace HW := Lib.hid (HW.trans (AP.1.mono hgR))
  obtain ⟨z1, z2, z3⟩ := zero_form
  refine bodyPost_ret (v := .tuple #[.agg #[.bool false, .slice none 0 0, .bool false, .slice none 0 0, .slice none 0 0], .int .i64 2]) (by simp [results, Tryz.results84, go_sem, r0, r1, r2, r3, r4, f0, f1, f2, f3, f4]) rfl ?_
  have h := retNumE_fin (k := 2) (q := Cx.zero) (A1 := none) (A2 := none) (A3 := none) HW ⟨by rw [z1]; exact fun e => absurd rfl e, by rw [z2]; exact fun e => absurd rfl e, by rw [z3]; exact fun e => absurd rfl e⟩ (by omega) r0
  rw [z1, z2, z3, sn_zero, show ab 0 = 0 from rfl, ln_zero] at h
  exact h

set_option maxHeartbeats 4000000 in
theorem parseG_imag_zero (l : List UInt8) (neg : Bool) (hneg : neg = decide (l.head? = some 45)) (n d : Nat) (b1 : Bool) (rl : List UInt8) (w : World) (hm : mgP false (sgr l) = ((n, d), b1, rl)) (hs : l.length ≤ 4096) (t : List UInt8) (hr1 : rl = 105 :: t) (ht : t = []) (hb1 : b1 = false) (hd0 : d = 0) :
    Calls Tryz.prog 84 #[.string (bs l)] w (RetNumE w 3 Cx.zero) := by
  have HS := Lib.hid hs
  have HMG := Lib.hid hm
  have HNG := Lib.hid hneg
  have HB := Lib.hid (mgP_ln (b := false) (l := sgr l) (K := 4098) (by have := sgr_le l; omega))
  rw [hm] at HB
  have HR := Lib.hid (mgP_len false (sgr l))
  rw [hm] at HR
  subst hr1
  subst hb1
  subst ht
  have H0 := Lib.hid hd0
  clear hd0
  clear hs hm hneg
  go_enter Tryz.func84, Tryz.ntmps84
  have tl : decide (4096 < ((bs (l)).size : Int)) = false := by rw [bs_size, decide_eq_false_iff_not]; have := HS.out; omega
  go_wp2_with fail
  obtain ⟨W, hW⟩ : ∃ W : World, W = (w.alloc (.cells #[.bool false, .slice none 0 0, .bool false, .slice none 0 0, .slice none 0 0] 30)).alloc (.cells #[.string (bs (l)), .bool false] 174) := ⟨_, rfl⟩
  rw [← hW]
  have rr : NewVarN 0 w.heap.size W := by subst hW; exact ⟨Nat.zero_le _, by simp; omega, ⟨by go_simp, by go_simp, by go_simp, by go_simp, by go_simp⟩, by go_simp, by go_simp, by go_simp, by go_simp, by go_simp⟩
  have ns := NS.nil W
  have hrd : Rd W (w.heap.size + 1) (bs (l)) false := by subst hW; exact ⟨by simp, by go_simp, by go_simp, by go_simp, by go_simp⟩
  have HW : Below w.heap.size w W := by subst hW; exact ((Below.refl _ _).alloc (Nat.le_refl _) _).alloc (by simp) _
  clear hW tl
  have hRg : w.heap.size ≠ w.heap.size + 1 := by omega
  have AP : Ap (w.heap.size + 1) W W := Ap.refl _ _
  have hgR : w.heap.size ≤ w.heap.size + 1 := by omega
  generalize w.heap.size + 1 = g at *
  refine (take_list 45 l g false _ hrd).mono ?_
  rintro e w1 ⟨rfl, hn, ap⟩
  replace rr := rr.ap ap hRg
  replace ns := ns.ap ap hrd
  replace AP := AP.trans ap
  replace hrd := hn
  clear ap
  rw [sgr_def] at hrd
  rw [← HNG.out]
  obtain ⟨_, lR, ⟨r0, r1, r2, r3, r4⟩, f0, f1, f2, f3, f4⟩ := id rr
  go_wp2_with fail
  clear lR r0 r1 r2 r3 r4 f0 f1 f2 f3 f4
  have MG := mag_all (sgr l) g false _ hrd (by have := HS.out; have := sgr_le l; omega)
  rw [HMG.out] at MG
  dsimp only at MG HB HR
  refine MG.mono ?_
  rintro e w2 ⟨N, M, rfl, hN, hM, hn, ap⟩
  clear MG
  replace rr := rr.ap ap hRg
  replace ns := ns.ap ap hrd
  replace AP := AP.trans ap
  replace hrd := hn
  clear ap
  replace ns := ns.cons hN
  clear hN
  replace ns := ns.cons hM
  clear hM
  obtain ⟨_, lR, ⟨r0, r1, r2, r3, r4⟩, f0, f1, f2, f3, f4⟩ := id rr
  go_wp2_with fail
  clear lR r0 r1 r2 r3 r4 f0 f1 f2 f3 f4
  refine (wholeOf_any neg n N _ (by exact ns.at 1 rfl)).mono ?_
  rintro e w3 ⟨Z, rfl, hZ, hb⟩
  have ap := Ap.of hb hrd.1
  replace rr := rr.ap ap hRg
  replace ns := ns.ap ap hrd
  replace AP := AP.trans ap
  replace hrd := hrd.to hb
  clear ap hb
  replace ns := ns.cons hZ
  clear hZ
  obtain ⟨_, lR, ⟨r0, r1, r2, r3, r4⟩, f0, f1, f2, f3, f4⟩ := id rr
  go_wp2_with fail
  clear lR r0 r1 r2 r3 r4 f0 f1 f2 f3 f4
  have HZB : Hid (ln (ab (zi neg n)) ≤ 5098 ∧ ln n ≤ 5098 ∧ ln d ≤ 5098) := Lib.hid ⟨by rw [zi_ab]; exact HB.out.1, HB.out.1, HB.out.2⟩
  generalize zi neg n = z at *
  obtain ⟨X, hX⟩ : ∃ X : World, X = (((w3.alloc (.cells #[.int .u32 1] 45)).alloc (.cells #[.bool (sn (z)), .slice Z (ln (ab (z))) (ln (ab (z)))] 28)).alloc (.cells #[.bool false, .slice none 0 0] 28)) := ⟨_, rfl⟩
  rw [← hX]
  have hb : Below w3.heap.size w3 X := by subst hX; exact (((Below.refl _ _).alloc (Nat.le_refl _) _).alloc (by simp) _).alloc (by simp; omega) _
  have h1 : Nat32 X (some ⟨w3.heap.size, 0, none⟩) 1 := by subst hX; exact ((nat1_new _ _).alloc _).alloc _
  have U : WV X (w3.heap.size + 1) (.bool (sn (z))) (.slice Z (ln (ab (z))) (ln (ab (z)))) := by subst hX; exact ⟨by simp <;> omega, by go_simp, by go_simp, by go_simp, by go_simp⟩
  have ngu : w3.heap.size + 1 ≠ g := by have := hrd.1; omega
  have nRu : w3.heap.size + 1 ≠ w.heap.size := by have := rr.2.1; omega
  have V : WV X (w3.heap.size + 1 + 1) (.bool false) (.slice none 0 0) := by subst hX; exact ⟨by simp <;> omega, by go_simp, by go_simp, by go_simp, by go_simp⟩
  have ngv : w3.heap.size + 1 + 1 ≠ g := by have := hrd.1; omega
  have nRv : w3.heap.size + 1 + 1 ≠ w.heap.size := by have := rr.2.1; omega
  clear hX
  have hWp : W.heap.size ≤ w3.heap.size := AP.1.size
  have hgp : g ≤ w3.heap.size := Nat.le_of_lt hrd.1
  have ap := Ap.of hb hrd.1
  replace rr := rr.ap ap hRg
  replace ns := ns.ap ap hrd
  replace AP := AP.trans ap
  replace hrd := hrd.to hb
  clear ap hb
  generalize w3.heap.size = p at *
  replace ns := ns.cons h1
  clear h1
  refine (take_hit 105 [] g false _ hrd).mono ?_
  rintro e w4 ⟨rfl, hn, ap⟩
  replace rr := rr.ap ap hRg
  replace U := U.ap ap ngu
  replace V := V.ap ap ngv
  replace ns := ns.ap ap hrd
  replace AP := AP.trans ap
  replace hrd := hn
  clear ap
  have q0 := hrd.2.1
  have q1 := hrd.2.2.1
  have t1 : decide (0 < ((bs []).size : Int)) = false := rfl
  have t2 : decide (0 < (bs []).size) = false := rfl
  have t3 : ((ln d : Int) == 0) = true := by rw [H0.out, ln_zero]; rfl
  obtain ⟨_, lR, ⟨r0, r1, r2, r3, r4⟩, f0, f1, f2, f3, f4⟩ := id rr
  obtain ⟨lbu, u0, u1, zu0, zu1⟩ := id U
  obtain ⟨lbv, v0, v1, zv0, zv1⟩ := id V
  go_wp2_with fail
  clear lR r0 r1 r2 r3 r4 f0 f1 f2 f3 f4 lbu u0 u1 zu0 zu1 lbv v0 v1 zv0 zv1 q0 q1 t1 t2 t3
  obtain ⟨X1, hX⟩ : ∃ X : World, X = w4.setCell ⟨p + 1, 0, none⟩ (.bool false) := ⟨_, rfl⟩
  rw [← hX]
  have ns_ := ns.box (i := 0) (u := .bool false) U.c0 (bool_ne _)
  have rr_ := rr.set (b := p + 1) (i := 0) (u := .bool false) (Ne.symm nRu)
  have U_ := U.put0 (u := .bool false)
  have V_ := V.set (c := p + 1) (i := 0) (u := .bool false) (by omega)
  have hrd_ := hrd.other (i := 0) (u := .bool false) ngu
  have AP_ := AP.new (R := p + 1) (i := 0) (u := .bool false) (by omega) (by omega)
  rw [← hX] at ns_ rr_ U_ V_ hrd_ AP_
  clear hX ns rr U V hrd AP
  have ns := ns_
  have rr := rr_
  have U := U_
  have V := V_
  have hrd := hrd_
  have AP := AP_
  clear ns_ rr_ U_ V_ hrd_ AP_
  obtain ⟨X2, hX⟩ : ∃ X : World, X = X1.setCell ⟨p + 1, 1, none⟩ (.slice none 0 0) := ⟨_, rfl⟩
  rw [← hX]
  have ns_ := ns.box (i := 1) (u := .slice none 0 0) U.c0 (bool_ne _)
  have rr_ := rr.set (b := p + 1) (i := 1) (u := .slice none 0 0) (Ne.symm nRu)
  have U_ := U.put1 (u := .slice none 0 0)
  have V_ := V.set (c := p + 1) (i := 1) (u := .slice none 0 0) (by omega)
  have hrd_ := hrd.other (i := 1) (u := .slice none 0 0) ngu
  have AP_ := AP.new (R := p + 1) (i := 1) (u := .slice none 0 0) (by omega) (by omega)
  rw [← hX] at ns_ rr_ U_ V_ hrd_ AP_
  clear hX ns rr U V hrd AP
  have ns := ns_
  have rr := rr_
  have U := U_
  have V := V_
  have hrd := hrd_
  have AP := AP_
  clear ns_ rr_ U_ V_ hrd_ AP_
  obtain ⟨X3, hX⟩ : ∃ X : World, X = X2.setCell ⟨p + 1 + 1, 0, none⟩ (.bool (sn z)) := ⟨_, rfl⟩
  rw [← hX]
  have ns_ := ns.box (i := 0) (u := .bool (sn z)) V.c0 (bool_ne _)
  have rr_ := rr.set (b := p + 1 + 1) (i := 0) (u := .bool (sn z)) (Ne.symm nRv)
  have U_ := U.set (c := p + 1 + 1) (i := 0) (u := .bool (sn z)) (by omega)
  have V_ := V.put0 (u := .bool (sn z))
  have hrd_ := hrd.other (i := 0) (u := .bool (sn z)) ngv
  have AP_ := AP.new (R := p + 1 + 1) (i := 0) (u := .bool (sn z)) (by omega) (by omega)
  rw [← hX] at ns_ rr_ U_ V_ hrd_ AP_
  clear hX ns rr U V hrd AP
  have ns := ns_
  have rr := rr_
  have U := U_
  have V := V_
  have hrd := hrd_
  have AP := AP_
  clear ns_ rr_ U_ V_ hrd_ AP_
  obtain ⟨X4, hX⟩ : ∃ X : World, X = X3.setCell ⟨p + 1 + 1, 1, none⟩ (.slice Z (ln (ab z)) (ln (ab z))) := ⟨_, rfl⟩
  rw [← hX]
  have ns_ := ns.box (i := 1) (u := .slice Z (ln (ab z)) (ln (ab z))) V.c0 (bool_ne _)
  have rr_ := rr.set (b := p + 1 + 1) (i := 1) (u := .slice Z (ln (ab z)) (ln (ab z))) (Ne.symm nRv)
  have U_ := U.set (c := p + 1 + 1) (i := 1) (u := .slice Z (ln (ab z)) (ln (ab z))) (by omega)
  have V_ := V.put1 (u := .slice Z (ln (ab z)) (ln (ab z)))
  have hrd_ := hrd.other (i := 1) (u := .slice Z (ln (ab z)) (ln (ab z))) ngv
  have AP_ := AP.new (R := p + 1 + 1) (i := 1) (u := .slice Z (ln (ab z)) (ln (ab z))) (by omega) (by omega)
  rw [← hX] at ns_ rr_ U_ V_ hrd_ AP_
  clear hX ns rr U V hrd AP
  have ns := ns_
  have rr := rr_
  have U := U_
  have V := V_
  have hrd := hrd_
  have AP := AP_
  clear ns_ rr_ U_ V_ hrd_ AP_
  obtain ⟨_, lR, ⟨r0, r1, r2, r3, r4⟩, f0, f1, f2, f3, f4⟩ := id rr
  replace HW := Lib.hid (HW.trans (AP.1.mono hgR))
  obtain ⟨z1, z2, z3⟩ := zero_form
  refine bodyPost_ret (v := .tuple #[.agg #[.bool false, .slice none 0 0, .bool false, .slice none 0 0, .slice none 0 0], .int .i64 3]) (by simp [results, Tryz.results84, go_sem, r0, r1, r2, r3, r4, f0, f1, f2, f3, f4]) rfl ?_
  have h := retNumE_fin (k := 3) (q := Cx.zero) (A1 := none) (A2 := none) (A3 := none) HW ⟨by rw [z1]; exact fun e => absurd rfl e, by rw [z2]; exact fun e => absurd rfl e, by rw [z3]; exact fun e => absurd rfl e⟩ (by omega) r0
  rw [z1, z2, z3, sn_zero, show ab 0 = 0 from rfl, ln_zero] at h
  exact h

set_option maxHeartbeats 4000000 in
theorem parseG_none (l : List UInt8) (neg : Bool) (hneg : neg = decide (l.head? = some 45)) (n d : Nat) (b1 : Bool) (rl : List UInt8) (w : World) (hm : mgP false (sgr l) = ((n, d), b1, rl)) (hs : l.length ≤ 4096) (hr1 : rl ≠ []) (h105 : rl.head? ≠ some 105) (h45 : rl.head? ≠ some 45) (h43 : rl.head? ≠ some 43) :
    Calls Tryz.prog 84 #[.string (bs l)] w (RetNumE w 2 Cx.zero) := by
  have HS := Lib.hid hs
  have HMG := Lib.hid hm
  have HNG := Lib.hid hneg
  have HB := Lib.hid (mgP_ln (b := false) (l := sgr l) (K := 4098) (by have := sgr_le l; omega))
  rw [hm] at HB
  have HR := Lib.hid (mgP_len false (sgr l))
  rw [hm] at HR
  have H1 := Lib.hid hr1
  have H105 := Lib.hid h105
  have H45 := Lib.hid h45
  have H43 := Lib.hid h43
  clear hr1 h105 h45 h43
  clear hs hm hneg
  go_enter Tryz.func84, Tryz.ntmps84
  have tl : decide (4096 < ((bs (l)).size : Int)) = false := by rw [bs_size, decide_eq_false_iff_not]; have := HS.out; omega
  go_wp2_with fail
  obtain ⟨W, hW⟩ : ∃ W : World, W = (w.alloc (.cells #[.bool false, .slice none 0 0, .bool false, .slice none 0 0, .slice none 0 0] 30)).alloc (.cells #[.string (bs (l)), .bool false] 174) := ⟨_, rfl⟩
  rw [← hW]
  have rr : NewVarN 0 w.heap.size W := by subst hW; exact ⟨Nat.zero_le _, by simp; omega, ⟨by go_simp, by go_simp, by go_simp, by go_simp, by go_simp⟩, by go_simp, by go_simp, by go_simp, by go_simp, by go_simp⟩
  have ns := NS.nil W
  have hrd : Rd W (w.heap.size + 1) (bs (l)) false := by subst hW; exact ⟨by simp, by go_simp, by go_simp, by go_simp, by go_simp⟩
  have HW : Below w.heap.size w W := by subst hW; exact ((Below.refl _ _).alloc (Nat.le_refl _) _).alloc (by simp) _
  clear hW tl
  have hRg : w.heap.size ≠ w.heap.size + 1 := by omega
  have AP : Ap (w.heap.size + 1) W W := Ap.refl _ _
  have hgR : w.heap.size ≤ w.heap.size + 1 := by omega
  generalize w.heap.size + 1 = g at *
  refine (take_list 45 l g false _ hrd).mono ?_
  rintro e w1 ⟨rfl, hn, ap⟩
  replace rr := rr.ap ap hRg
  replace ns := ns.ap ap hrd
  replace AP := AP.trans ap
  replace hrd := hn
  clear ap
  rw [sgr_def] at hrd
  rw [← HNG.out]
  obtain ⟨_, lR, ⟨r0, r1, r2, r3, r4⟩, f0, f1, f2, f3, f4⟩ := id rr
  go_wp2_with fail
  clear lR r0 r1 r2 r3 r4 f0 f1 f2 f3 f4
  have MG := mag_all (sgr l) g false _ hrd (by have := HS.out; have := sgr_le l; omega)
  rw [HMG.out] at MG
  dsimp only at MG HB HR
  refine MG.mono ?_
  rintro e w2 ⟨N, M, rfl, hN, hM, hn, ap⟩
  clear MG
  replace rr := rr.ap ap hRg
  replace ns := ns.ap ap hrd
  replace AP := AP.trans ap
  replace hrd := hn
  clear ap
  replace ns := ns.cons hN
  clear hN
  replace ns := ns.cons hM
  clear hM
  obtain ⟨_, lR, ⟨r0, r1, r2, r3, r4⟩, f0, f1, f2, f3, f4⟩ := id rr
  go_wp2_with fail
  clear lR r0 r1 r2 r3 r4 f0 f1 f2 f3 f4
  refine (wholeOf_any neg n N _ (by exact ns.at 1 rfl)).mono ?_
  rintro e w3 ⟨Z, rfl, hZ, hb⟩
  have ap := Ap.of hb hrd.1
  replace rr := rr.ap ap hRg
  replace ns := ns.ap ap hrd
  replace AP := AP.trans ap
  replace hrd := hrd.to hb
  clear ap hb
  replace ns := ns.cons hZ
  clear hZ
  obtain ⟨_, lR, ⟨r0, r1, r2, r3, r4⟩, f0, f1, f2, f3, f4⟩ := id rr
  go_wp2_with fail
  clear lR r0 r1 r2 r3 r4 f0 f1 f2 f3 f4
  have HZB : Hid (ln (ab (zi neg n)) ≤ 5098 ∧ ln n ≤ 5098 ∧ ln d ≤ 5098) := Lib.hid ⟨by rw [zi_ab]; exact HB.out.1, HB.out.1, HB.out.2⟩
  generalize zi neg n = z at *
  obtain ⟨X, hX⟩ : ∃ X : World, X = (((w3.alloc (.cells #[.int .u32 1] 45)).alloc (.cells #[.bool (sn (z)), .slice Z (ln (ab (z))) (ln (ab (z)))] 28)).alloc (.cells #[.bool false, .slice none 0 0] 28)) := ⟨_, rfl⟩
  rw [← hX]
  have hb : Below w3.heap.size w3 X := by subst hX; exact (((Below.refl _ _).alloc (Nat.le_refl _) _).alloc (by simp) _).alloc (by simp; omega) _
  have h1 : Nat32 X (some ⟨w3.heap.size, 0, none⟩) 1 := by subst hX; exact ((nat1_new _ _).alloc _).alloc _
  have U : WV X (w3.heap.size + 1) (.bool (sn (z))) (.slice Z (ln (ab (z))) (ln (ab (z)))) := by subst hX; exact ⟨by simp <;> omega, by go_simp, by go_simp, by go_simp, by go_simp⟩
  have ngu : w3.heap.size + 1 ≠ g := by have := hrd.1; omega
  have nRu : w3.heap.size + 1 ≠ w.heap.size := by have := rr.2.1; omega
  have V : WV X (w3.heap.size + 1 + 1) (.bool false) (.slice none 0 0) := by subst hX; exact ⟨by simp <;> omega, by go_simp, by go_simp, by go_simp, by go_simp⟩
  have ngv : w3.heap.size + 1 + 1 ≠ g := by have := hrd.1; omega
  have nRv : w3.heap.size + 1 + 1 ≠ w.heap.size := by have := rr.2.1; omega
  clear hX
  have hWp : W.heap.size ≤ w3.heap.size := AP.1.size
  have hgp : g ≤ w3.heap.size := Nat.le_of_lt hrd.1
  have ap := Ap.of hb hrd.1
  replace rr := rr.ap ap hRg
  replace ns := ns.ap ap hrd
  replace AP := AP.trans ap
  replace hrd := hrd.to hb
  clear ap hb
  generalize w3.heap.size = p at *
  replace ns := ns.cons h1
  clear h1
  refine (take_miss 105 rl g b1 _ hrd (fun x hx e => H105.out (by rw [← e]; exact hx))).mono ?_
  rintro e w4 ⟨rfl, hn, ap⟩
  replace rr := rr.ap ap hRg
  replace U := U.ap ap ngu
  replace V := V.ap ap ngv
  replace ns := ns.ap ap hrd
  replace AP := AP.trans ap
  replace hrd := hn
  clear ap
  have q0 := hrd.2.1
  have t1 : decide (0 < ((bs rl).size : Int)) = true := by rw [bs_size, decide_eq_true_iff]; have := List.length_pos_iff.2 H1.out; omega
  have t2 : decide (0 < (bs rl).size) = true := by rw [bs_size, decide_eq_true_iff]; exact List.length_pos_iff.2 H1.out
  obtain ⟨_, lR, ⟨r0, r1, r2, r3, r4⟩, f0, f1, f2, f3, f4⟩ := id rr
  obtain ⟨lbu, u0, u1, zu0, zu1⟩ := id U
  obtain ⟨lbv, v0, v1, zv0, zv1⟩ := id V
  go_wp2_with fail
  clear lR r0 r1 r2 r3 r4 f0 f1 f2 f3 f4 lbu u0 u1 zu0 zu1 lbv v0 v1 zv0 zv1 q0 t1 t2
  refine (take_miss 45 rl g b1 _ hrd (fun x hx e => H45.out (by rw [← e]; exact hx))).mono ?_
  rintro e w5 ⟨rfl, hn, ap⟩
  replace rr := rr.ap ap hRg
  replace U := U.ap ap ngu
  replace V := V.ap ap ngv
  replace ns := ns.ap ap hrd
  replace AP := AP.trans ap
  replace hrd := hn
  clear ap
  obtain ⟨_, lR, ⟨r0, r1, r2, r3, r4⟩, f0, f1, f2, f3, f4⟩ := id rr
  obtain ⟨lbu, u0, u1, zu0, zu1⟩ := id U
  obtain ⟨lbv, v0, v1, zv0, zv1⟩ := id V
  go_wp2_with fail
  clear lR r0 r1 r2 r3 r4 f0 f1 f2 f3 f4 lbu u0 u1 zu0 zu1 lbv v0 v1 zv0 zv1
  refine (take_miss 43 rl g b1 _ hrd (fun x hx e => H43.out (by rw [← e]; exact hx))).mono ?_
  rintro e w6 ⟨rfl, hn, ap⟩
  replace rr := rr.ap ap hRg
  replace U := U.ap ap ngu
  replace V := V.ap ap ngv
  replace ns := ns.ap ap hrd
  replace AP := AP.trans ap
  replace hrd := hn
  clear ap
  obtain ⟨_, lR, ⟨r0, r1, r2, r3, r4⟩, f0, f1, f2, f3, f4⟩ := id rr
  obtain ⟨lbu, u0, u1, zu0, zu1⟩ := id U
  obtain ⟨lbv, v0, v1, zv0, zv1⟩ := id V
  go_wp2_with fail
  clear lR r0 r1 r2 r3 r4 f0 f1 f2 f3 f4 lbu u0 u1 zu0 zu1 lbv v0 v1 zv0 zv1
  obtain ⟨_, lR, ⟨r0, r1, r2, r3, r4⟩, f0, f1, f2, f3, f4⟩ := id rr
  replace HW := Lib.hid (HW.trans (AP.1.mono hgR))
  obtain ⟨z1, z2, z3⟩ := zero_form
  refine bodyPost_ret (v := .tuple #[.agg #[.bool false, .slice none 0 0, .bool false, .slice none 0 0, .slice none 0 0], .int .i64 2]) (by simp [results, Tryz.results84, go_sem, r0, r1, r2, r3, r4, f0, f1, f2, f3, f4]) rfl ?_
  have h := retNumE_fin (k := 2) (q := Cx.zero) (A1 := none) (A2 := none) (A3 := none) HW ⟨by rw [z1]; exact fun e => absurd rfl e, by rw [z2]; exact fun e => absurd rfl e, by rw [z3]; exact fun e => absurd rfl e⟩ (by omega) r0
  rw [z1, z2, z3, sn_zero, show ab 0 = 0 from rfl, ln_zero] at h
  exact h

set_option maxHeartbeats 4000000 in
theorem parseG_long (l : List UInt8) (w : World) (hs : 4096 < l.length) :
    Calls Tryz.prog 84 #[.string (bs l)] w (RetNumE w 4 Cx.zero) := by
  go_enter Tryz.func84, Tryz.ntmps84
  have tl : decide (4096 < ((bs l).size : Int)) = true := by rw [bs_size, decide_eq_true_iff]; omega
  go_wp2_with fail
  obtain ⟨W, hW⟩ : ∃ W : World, W = w.alloc (.cells #[.bool false, .slice none 0 0, .bool false, .slice none 0 0, .slice none 0 0] 30) := ⟨_, rfl⟩
  rw [← hW]
  have r0 : W.cell? ⟨w.heap.size, 0, none⟩ = some (.bool false) := by subst hW; go_simp
  have f0 : W.frozen? ⟨w.heap.size, 0, none⟩ = false := by subst hW; go_simp
  have r1 : W.cell? ⟨w.heap.size, 1, none⟩ = some (.slice none 0 0) := by subst hW; go_simp
  have f1 : W.frozen? ⟨w.heap.size, 1, none⟩ = false := by subst hW; go_simp
  have r2 : W.cell? ⟨w.heap.size, 2, none⟩ = some (.bool false) := by subst hW; go_simp
  have f2 : W.frozen? ⟨w.heap.size, 2, none⟩ = false := by subst hW; go_simp
  have r3 : W.cell? ⟨w.heap.size, 3, none⟩ = some (.slice none 0 0) := by subst hW; go_simp
  have f3 : W.frozen? ⟨w.heap.size, 3, none⟩ = false := by subst hW; go_simp
  have r4 : W.cell? ⟨w.heap.size, 4, none⟩ = some (.slice none 0 0) := by subst hW; go_simp
  have f4 : W.frozen? ⟨w.heap.size, 4, none⟩ = false := by subst hW; go_simp
  have HW : Below w.heap.size w W := by subst hW; exact (Below.refl _ _).alloc (Nat.le_refl _) _
  obtain ⟨z1, z2, z3⟩ := zero_form
  refine bodyPost_ret (v := .tuple #[.agg #[.bool false, .slice none 0 0, .bool false, .slice none 0 0, .slice none 0 0], .int .i64 4]) (by simp [results, Tryz.results84, go_sem, r0, r1, r2, r3, r4, f0, f1, f2, f3, f4]) rfl ?_
  refine ⟨none, none, none, ?_, ⟨by rw [z1]; exact fun e => absurd rfl e, by rw [z2]; exact fun e => absurd rfl e, by rw [z3]; exact fun e => absurd rfl e⟩, HW⟩
  rw [z1, z2, z3, sn_zero, show ab 0 = 0 from rfl, ln_zero]

end Go.Proofs.YtgpmlhpgdalheaaGreat

namespace Go.Proofs.YtgpmlhpgdalheaaGreat
open Go.RowKit Pl
set_option linter.unusedVariables false
set_option linter.unusedSimpArgs false

set_option maxHeartbeats 4000000 in
theorem parseG_true (l : List UInt8) (neg : Bool) (hneg : neg = decide (l.head? = some 45)) (n d : Nat) (b1 : Bool) (rl : List UInt8) (w : World) (hm : mgP false (sgr l) = ((n, d), b1, rl)) (hs : l.length ≤ 4096) (t : List UInt8) (hr1 : rl = 45 :: t) (n2 e : Nat) (b2 : Bool) (sl : List UInt8) (hk : mgP b1 t = ((n2, e), b2, sl)) (K : Int) (Q : Cx) (hKQ : (K, Q) = if sl.head? ≠ some 105 ∨ b2 = true ∨ sl.tail ≠ [] then (2, Cx.zero) else if d = 0 ∨ e = 0 then (3, Cx.zero) else (0, fr (zi neg n * (e : Int)) (zi true n2 * (d : Int)) (d * e))) :
    Calls Tryz.prog 84 #[.string (bs l)] w (RetNumE w K Q) := by
  have HS := Lib.hid hs
  have HMG := Lib.hid hm
  have HNG := Lib.hid hneg
  have HB := Lib.hid (mgP_ln (b := false) (l := sgr l) (K := 4098) (by have := sgr_le l; omega))
  rw [hm] at HB
  have HR := Lib.hid (mgP_len false (sgr l))
  rw [hm] at HR
  subst hr1
  have HK := Lib.hid hk
  have HB2 := Lib.hid (mgP_ln (b := b1) (l := t) (K := 4098) (by have := HR.out; have := sgr_le l; have := HS.out; simp only [List.length_cons] at *; omega))
  rw [hk] at HB2
  obtain ⟨Zn, hZn⟩ : ∃ Zn, Zn = zi neg n := ⟨_, rfl⟩
  obtain ⟨Yn, hYn⟩ : ∃ Yn, Yn = zi true n2 := ⟨_, rfl⟩
  rw [← hZn, ← hYn] at hKQ
  have HKQ := Lib.hid hKQ
  have HZN := Lib.hid hZn
  have HYN := Lib.hid hYn
  clear hk hKQ hZn hYn
  clear hs hm hneg
  go_enter Tryz.func84, Tryz.ntmps84
  have tl : decide (4096 < ((bs (l)).size : Int)) = false := by rw [bs_size, decide_eq_false_iff_not]; have := HS.out; omega
  go_wp2_with fail
  obtain ⟨W, hW⟩ : ∃ W : World, W = (w.alloc (.cells #[.bool false, .slice none 0 0, .bool false, .slice none 0 0, .slice none 0 0] 30)).alloc (.cells #[.string (bs (l)), .bool false] 174) := ⟨_, rfl⟩
  rw [← hW]
  have rr : NewVarN 0 w.heap.size W := by subst hW; exact ⟨Nat.zero_le _, by simp; omega, ⟨by go_simp, by go_simp, by go_simp, by go_simp, by go_simp⟩, by go_simp, by go_simp, by go_simp, by go_simp, by go_simp⟩
  have ns := NS.nil W
  have hrd : Rd W (w.heap.size + 1) (bs (l)) false := by subst hW; exact ⟨by simp, by go_simp, by go_simp, by go_simp, by go_simp⟩
  have HW : Below w.heap.size w W := by subst hW; exact ((Below.refl _ _).alloc (Nat.le_refl _) _).alloc (by simp) _
  clear hW tl
  have hRg : w.heap.size ≠ w.heap.size + 1 := by omega
  have AP : Ap (w.heap.size + 1) W W := Ap.refl _ _
  have hgR : w.heap.size ≤ w.heap.size + 1 := by omega
  generalize w.heap.size + 1 = g at *
  refine (take_list 45 l g false _ hrd).mono ?_
  rintro e w1 ⟨rfl, hn, ap⟩
  replace rr := rr.ap ap hRg
  replace ns := ns.ap ap hrd
  replace AP := AP.trans ap
  replace hrd := hn
  clear ap
  rw [sgr_def] at hrd
  rw [← HNG.out]
  obtain ⟨_, lR, ⟨r0, r1, r2, r3, r4⟩, f0, f1, f2, f3, f4⟩ := id rr
  go_wp2_with fail
  clear lR r0 r1 r2 r3 r4 f0 f1 f2 f3 f4
  have MG := mag_all (sgr l) g false _ hrd (by have := HS.out; have := sgr_le l; omega)
  rw [HMG.out] at MG
  dsimp only at MG HB HR
  refine MG.mono ?_
  rintro e w2 ⟨N, M, rfl, hN, hM, hn, ap⟩
  clear MG
  replace rr := rr.ap ap hRg
  replace ns := ns.ap ap hrd
  replace AP := AP.trans ap
  replace hrd := hn
  clear ap
  replace ns := ns.cons hN
  clear hN
  replace ns := ns.cons hM
  clear hM
  obtain ⟨_, lR, ⟨r0, r1, r2, r3, r4⟩, f0, f1, f2, f3, f4⟩ := id rr
  go_wp2_with fail
  clear lR r0 r1 r2 r3 r4 f0 f1 f2 f3 f4
  refine (wholeOf_any neg n N _ (by exact ns.at 1 rfl)).mono ?_
  rintro e w3 ⟨Z, rfl, hZ, hb⟩
  have ap := Ap.of hb hrd.1
  replace rr := rr.ap ap hRg
  replace ns := ns.ap ap hrd
  replace AP := AP.trans ap
  replace hrd := hrd.to hb
  clear ap hb
  replace ns := ns.cons hZ
  clear hZ
  obtain ⟨_, lR, ⟨r0, r1, r2, r3, r4⟩, f0, f1, f2, f3, f4⟩ := id rr
  go_wp2_with fail
  clear lR r0 r1 r2 r3 r4 f0 f1 f2 f3 f4
  have HZB : Hid (ln (ab (zi neg n)) ≤ 5098 ∧ ln n ≤ 5098 ∧ ln d ≤ 5098) := Lib.hid ⟨by rw [zi_ab]; exact HB.out.1, HB.out.1, HB.out.2⟩
  rw [← HZN.out] at *
  generalize Zn = z at *
  obtain ⟨X, hX⟩ : ∃ X : World, X = (((w3.alloc (.cells #[.int .u32 1] 45)).alloc (.cells #[.bool (sn (z)), .slice Z (ln (ab (z))) (ln (ab (z)))] 28)).alloc (.cells #[.bool false, .slice none 0 0] 28)) := ⟨_, rfl⟩
  rw [← hX]
  have hb : Below w3.heap.size w3 X := by subst hX; exact (((Below.refl _ _).alloc (Nat.le_refl _) _).alloc (by simp) _).alloc (by simp; omega) _
  have h1 : Nat32 X (some ⟨w3.heap.size, 0, none⟩) 1 := by subst hX; exact ((nat1_new _ _).alloc _).alloc _
  have U : WV X (w3.heap.size + 1) (.bool (sn (z))) (.slice Z (ln (ab (z))) (ln (ab (z)))) := by subst hX; exact ⟨by simp <;> omega, by go_simp, by go_simp, by go_simp, by go_simp⟩
  have ngu : w3.heap.size + 1 ≠ g := by have := hrd.1; omega
  have nRu : w3.heap.size + 1 ≠ w.heap.size := by have := rr.2.1; omega
  have V : WV X (w3.heap.size + 1 + 1) (.bool false) (.slice none 0 0) := by subst hX; exact ⟨by simp <;> omega, by go_simp, by go_simp, by go_simp, by go_simp⟩
  have ngv : w3.heap.size + 1 + 1 ≠ g := by have := hrd.1; omega
  have nRv : w3.heap.size + 1 + 1 ≠ w.heap.size := by have := rr.2.1; omega
  clear hX
  have hWp : W.heap.size ≤ w3.heap.size := AP.1.size
  have hgp : g ≤ w3.heap.size := Nat.le_of_lt hrd.1
  have ap := Ap.of hb hrd.1
  replace rr := rr.ap ap hRg
  replace ns := ns.ap ap hrd
  replace AP := AP.trans ap
  replace hrd := hrd.to hb
  clear ap hb
  generalize w3.heap.size = p at *
  replace ns := ns.cons h1
  clear h1
  refine (take_miss 105 (45 :: t) g b1 _ hrd (fun x hx => by simp at hx; subst hx; decide)).mono ?_
  rintro e w4 ⟨rfl, hn, ap⟩
  replace rr := rr.ap ap hRg
  replace U := U.ap ap ngu
  replace V := V.ap ap ngv
  replace ns := ns.ap ap hrd
  replace AP := AP.trans ap
  replace hrd := hn
  clear ap
  have q0 := hrd.2.1
  have t1 : decide (0 < ((bs (45 :: t)).size : Int)) = true := by rw [bs_size]; simp <;> omega
  have t2' : decide (0 < (bs (45 :: t)).size) = true := by rw [bs_size]; simp
  obtain ⟨_, lR, ⟨r0, r1, r2, r3, r4⟩, f0, f1, f2, f3, f4⟩ := id rr
  obtain ⟨lbu, u0, u1, zu0, zu1⟩ := id U
  obtain ⟨lbv, v0, v1, zv0, zv1⟩ := id V
  go_wp2_with fail
  clear lR r0 r1 r2 r3 r4 f0 f1 f2 f3 f4 lbu u0 u1 zu0 zu1 lbv v0 v1 zv0 zv1 q0 t1 t2'
  refine (take_hit 45 t g b1 _ hrd).mono ?_
  rintro e w5 ⟨rfl, hn, ap⟩
  replace rr := rr.ap ap hRg
  replace U := U.ap ap ngu
  replace V := V.ap ap ngv
  replace ns := ns.ap ap hrd
  replace AP := AP.trans ap
  replace hrd := hn
  clear ap
  obtain ⟨_, lR, ⟨r0, r1, r2, r3, r4⟩, f0, f1, f2, f3, f4⟩ := id rr
  obtain ⟨lbu, u0, u1, zu0, zu1⟩ := id U
  obtain ⟨lbv, v0, v1, zv0, zv1⟩ := id V
  go_wp2_with fail
  clear lR r0 r1 r2 r3 r4 f0 f1 f2 f3 f4 lbu u0 u1 zu0 zu1 lbv v0 v1 zv0 zv1
  have MG := mag_all t g b1 _ hrd (by have := HS.out; have := HR.out; have := sgr_le l; simp only [List.length_cons] at *; omega)
  rw [HK.out] at MG
  dsimp only at MG HB2
  refine MG.mono ?_
  rintro e' w6 ⟨N2, E, rfl, hN2, hE, hn, ap⟩
  clear MG
  replace rr := rr.ap ap hRg
  replace U := U.ap ap ngu
  replace V := V.ap ap ngv
  replace ns := ns.ap ap hrd
  replace AP := AP.trans ap
  replace hrd := hn
  clear ap
  replace ns := ns.cons hN2
  clear hN2
  replace ns := ns.cons hE
  clear hE
  obtain ⟨_, lR, ⟨r0, r1, r2, r3, r4⟩, f0, f1, f2, f3, f4⟩ := id rr
  obtain ⟨lbu, u0, u1, zu0, zu1⟩ := id U
  obtain ⟨lbv, v0, v1, zv0, zv1⟩ := id V
  go_wp2_with fail
  clear lR r0 r1 r2 r3 r4 f0 f1 f2 f3 f4 lbu u0 u1 zu0 zu1 lbv v0 v1 zv0 zv1
  refine (wholeOf_any true n2 N2 _ (by exact ns.at 1 rfl)).mono ?_
  rintro e w7 ⟨Y, rfl, hY, hb⟩
  have ap := Ap.of hb hrd.1
  replace rr := rr.ap ap hRg
  replace U := U.ap ap ngu
  replace V := V.ap ap ngv
  replace ns := ns.ap ap hrd
  replace AP := AP.trans ap
  replace hrd := hrd.to hb
  clear ap hb
  replace ns := ns.cons hY
  clear hY
  obtain ⟨_, lR, ⟨r0, r1, r2, r3, r4⟩, f0, f1, f2, f3, f4⟩ := id rr
  obtain ⟨lbu, u0, u1, zu0, zu1⟩ := id U
  obtain ⟨lbv, v0, v1, zv0, zv1⟩ := id V
  go_wp2_with fail
  clear lR r0 r1 r2 r3 r4 f0 f1 f2 f3 f4 lbu u0 u1 zu0 zu1 lbv v0 v1 zv0 zv1
  have HYB : Hid (ln (ab (zi true n2)) ≤ 5098 ∧ ln n2 ≤ 5098 ∧ ln e ≤ 5098) := Lib.hid ⟨by rw [zi_ab]; exact HB2.out.1, HB2.out.1, HB2.out.2⟩
  rw [← HYN.out] at *
  generalize Yn = z2 at *
  obtain ⟨X1, hX⟩ : ∃ X : World, X = w7.setCell ⟨p + 1 + 1, 0, none⟩ (.bool (sn z2)) := ⟨_, rfl⟩
  rw [← hX]
  have ns_ := ns.box (i := 0) (u := .bool (sn z2)) V.c0 (bool_ne _)
  have rr_ := rr.set (b := p + 1 + 1) (i := 0) (u := .bool (sn z2)) (Ne.symm nRv)
  have U_ := U.set (c := p + 1 + 1) (i := 0) (u := .bool (sn z2)) (by omega)
  have V_ := V.put0 (u := .bool (sn z2))
  have hrd_ := hrd.other (i := 0) (u := .bool (sn z2)) ngv
  have AP_ := AP.new (R := p + 1 + 1) (i := 0) (u := .bool (sn z2)) (by omega) (by omega)
  rw [← hX] at ns_ rr_ U_ V_ hrd_ AP_
  clear hX ns rr U V hrd AP
  have ns := ns_
  have rr := rr_
  have U := U_
  have V := V_
  have hrd := hrd_
  have AP := AP_
  clear ns_ rr_ U_ V_ hrd_ AP_
  obtain ⟨X2, hX⟩ : ∃ X : World, X = X1.setCell ⟨p + 1 + 1, 1, none⟩ (.slice Y (ln (ab z2)) (ln (ab z2))) := ⟨_, rfl⟩
  rw [← hX]
  have ns_ := ns.box (i := 1) (u := .slice Y (ln (ab z2)) (ln (ab z2))) V.c0 (bool_ne _)
  have rr_ := rr.set (b := p + 1 + 1) (i := 1) (u := .slice Y (ln (ab z2)) (ln (ab z2))) (Ne.symm nRv)
  have U_ := U.set (c := p + 1 + 1) (i := 1) (u := .slice Y (ln (ab z2)) (ln (ab z2))) (by omega)
  have V_ := V.put1 (u := .slice Y (ln (ab z2)) (ln (ab z2)))
  have hrd_ := hrd.other (i := 1) (u := .slice Y (ln (ab z2)) (ln (ab z2))) ngv
  have AP_ := AP.new (R := p + 1 + 1) (i := 1) (u := .slice Y (ln (ab z2)) (ln (ab z2))) (by omega) (by omega)
  rw [← hX] at ns_ rr_ U_ V_ hrd_ AP_
  clear hX ns rr U V hrd AP
  have ns := ns_
  have rr := rr_
  have U := U_
  have V := V_
  have hrd := hrd_
  have AP := AP_
  clear ns_ rr_ U_ V_ hrd_ AP_
  by_cases h2 : sl.head? = some 105
  · cases sl with
    | nil => simp at h2
    | cons c2 t2 =>
      obtain rfl : c2 = 105 := by simpa using h2
      clear h2
      cases b2 with
      | true =>
        obtain ⟨E1, E2⟩ := kq (HKQ.out.trans (if_pos (.inr (.inl rfl))))
        refine (take_hit 105 t2 g true _ hrd).mono ?_
        rintro e w8 ⟨rfl, hn, ap⟩
        replace rr := rr.ap ap hRg
        replace U := U.ap ap ngu
        replace V := V.ap ap ngv
        replace ns := ns.ap ap hrd
        replace AP := AP.trans ap
        replace hrd := hn
        clear ap
        have q0 := hrd.2.1
        have q1 := hrd.2.2.1
        have q2 := hrd.2.2.2.2
        obtain ⟨_, lR, ⟨r0, r1, r2, r3, r4⟩, f0, f1, f2, f3, f4⟩ := id rr
        obtain ⟨lbu, u0, u1, zu0, zu1⟩ := id U
        obtain ⟨lbv, v0, v1, zv0, zv1⟩ := id V
        go_wp2_with fail
        clear lR r0 r1 r2 r3 r4 f0 f1 f2 f3 f4 lbu u0 u1 zu0 zu1 lbv v0 v1 zv0 zv1 q0 q1 q2
        obtain ⟨X3, hX⟩ : ∃ X : World, X = w8.setCell ⟨g, 1, none⟩ (.bool true) := ⟨_, rfl⟩
        rw [← hX]
        have ns_ := ns.box (i := 1) (u := .bool true) hrd.2.1 (str_ne _)
        have rr_ := rr.set (b := g) (i := 1) (u := .bool true) hRg
        have U_ := U.set (c := g) (i := 1) (u := .bool true) ngu
        have V_ := V.set (c := g) (i := 1) (u := .bool true) ngv
        have hrd_ := hrd.set1 (c := true)
        have AP_ := AP.set (i := 1) (u := .bool true)
        rw [← hX] at ns_ rr_ U_ V_ hrd_ AP_
        clear hX ns rr U V hrd AP
        have ns := ns_
        have rr := rr_
        have U := U_
        have V := V_
        have hrd := hrd_
        have AP := AP_
        clear ns_ rr_ U_ V_ hrd_ AP_
        obtain ⟨_, lR, ⟨r0, r1, r2, r3, r4⟩, f0, f1, f2, f3, f4⟩ := id rr
        replace HW := Lib.hid (HW.trans (AP.1.mono hgR))
        obtain ⟨z1, z2, z3⟩ := zero_form
        refine bodyPost_ret (v := .tuple #[.agg #[.bool false, .slice none 0 0, .bool false, .slice none 0 0, .slice none 0 0], .int .i64 2]) (by simp [results, Tryz.results84, go_sem, r0, r1, r2, r3, r4, f0, f1, f2, f3, f4]) rfl ?_
        have h := retNumE_fin (k := 2) (q := Cx.zero) (A1 := none) (A2 := none) (A3 := none) HW ⟨by rw [z1]; exact fun e => absurd rfl e, by rw [z2]; exact fun e => absurd rfl e, by rw [z3]; exact fun e => absurd rfl e⟩ (by omega) r0
        rw [z1, z2, z3, sn_zero, show ab 0 = 0 from rfl, ln_zero] at h
        rw [E1, E2]; exact h
      | false =>
        by_cases ht : t2 = []
        · subst ht
          replace HKQ := Lib.hid (HKQ.out.trans (if_neg (by simp)))
          by_cases hd : d = 0
          · have H0 := Lib.hid hd
            obtain ⟨E1, E2⟩ := kq (HKQ.out.trans (if_pos (.inl hd)))
            clear hd
            refine (take_hit 105 [] g false _ hrd).mono ?_
            rintro e w8 ⟨rfl, hn, ap⟩
            replace rr := rr.ap ap hRg
            replace U := U.ap ap ngu
            replace V := V.ap ap ngv
            replace ns := ns.ap ap hrd
            replace AP := AP.trans ap
            replace hrd := hn
            clear ap
            have q0 := hrd.2.1
            have q1 := hrd.2.2.1
            have q2 := hrd.2.2.2.2
            have t1 : decide (0 < ((bs []).size : Int)) = false := rfl
            have t2 : decide (0 < (bs []).size) = false := rfl
            have t3 : ((ln d : Int) == 0) = true := by rw [H0.out, ln_zero]; rfl
            obtain ⟨_, lR, ⟨r0, r1, r2, r3, r4⟩, f0, f1, f2, f3, f4⟩ := id rr
            obtain ⟨lbu, u0, u1, zu0, zu1⟩ := id U
            obtain ⟨lbv, v0, v1, zv0, zv1⟩ := id V
            go_wp2_with fail
            clear lR r0 r1 r2 r3 r4 f0 f1 f2 f3 f4 lbu u0 u1 zu0 zu1 lbv v0 v1 zv0 zv1 q0 q1 q2 t1 t2 t3
            obtain ⟨X3, hX⟩ : ∃ X : World, X = w8.setCell ⟨g, 1, none⟩ (.bool false) := ⟨_, rfl⟩
            rw [← hX]
            have ns_ := ns.box (i := 1) (u := .bool false) hrd.2.1 (str_ne _)
            have rr_ := rr.set (b := g) (i := 1) (u := .bool false) hRg
            have U_ := U.set (c := g) (i := 1) (u := .bool false) ngu
            have V_ := V.set (c := g) (i := 1) (u := .bool false) ngv
            have hrd_ := hrd.set1 (c := false)
            have AP_ := AP.set (i := 1) (u := .bool false)
            rw [← hX] at ns_ rr_ U_ V_ hrd_ AP_
            clear hX ns rr U V hrd AP
            have ns := ns_
            have rr := rr_
            have U := U_
            have V := V_
            have hrd := hrd_
            have AP := AP_
            clear ns_ rr_ U_ V_ hrd_ AP_
            obtain ⟨_, lR, ⟨r0, r1, r2, r3, r4⟩, f0, f1, f2, f3, f4⟩ := id rr
            replace HW := Lib.hid (HW.trans (AP.1.mono hgR))
            obtain ⟨z1, z2, z3⟩ := zero_form
            refine bodyPost_ret (v := .tuple #[.agg #[.bool false, .slice none 0 0, .bool false, .slice none 0 0, .slice none 0 0], .int .i64 3]) (by simp [results, Tryz.results84, go_sem, r0, r1, r2, r3, r4, f0, f1, f2, f3, f4]) rfl ?_
            have h := retNumE_fin (k := 3) (q := Cx.zero) (A1 := none) (A2 := none) (A3 := none) HW ⟨by rw [z1]; exact fun e => absurd rfl e, by rw [z2]; exact fun e => absurd rfl e, by rw [z3]; exact fun e => absurd rfl e⟩ (by omega) r0
            rw [z1, z2, z3, sn_zero, show ab 0 = 0 from rfl, ln_zero] at h
            rw [E1, E2]; exact h
          · have H0 := Lib.hid hd
            by_cases he : e = 0
            · have HE := Lib.hid he
              obtain ⟨E1, E2⟩ := kq (HKQ.out.trans (if_pos (.inr he)))
              clear hd he
              refine (take_hit 105 [] g false _ hrd).mono ?_
              rintro e w8 ⟨rfl, hn, ap⟩
              replace rr := rr.ap ap hRg
              replace U := U.ap ap ngu
              replace V := V.ap ap ngv
              replace ns := ns.ap ap hrd
              replace AP := AP.trans ap
              replace hrd := hn
              clear ap
              have q0 := hrd.2.1
              have q1 := hrd.2.2.1
              have q2 := hrd.2.2.2.2
              have t1 : decide (0 < ((bs []).size : Int)) = false := rfl
              have t2 : decide (0 < (bs []).size) = false := rfl
              have t3 : ((ln d : Int) == 0) = false := by have := ln_pos H0.out; rw [beq_eq_false_iff_ne]; omega
              have t4 : ((ln e : Int) == 0) = true := by rw [HE.out, ln_zero]; rfl
              obtain ⟨_, lR, ⟨r0, r1, r2, r3, r4⟩, f0, f1, f2, f3, f4⟩ := id rr
              obtain ⟨lbu, u0, u1, zu0, zu1⟩ := id U
              obtain ⟨lbv, v0, v1, zv0, zv1⟩ := id V
              go_wp2_with fail
              clear lR r0 r1 r2 r3 r4 f0 f1 f2 f3 f4 lbu u0 u1 zu0 zu1 lbv v0 v1 zv0 zv1 q0 q1 q2 t1 t2 t3 t4
              obtain ⟨X3, hX⟩ : ∃ X : World, X = w8.setCell ⟨g, 1, none⟩ (.bool false) := ⟨_, rfl⟩
              rw [← hX]
              have ns_ := ns.box (i := 1) (u := .bool false) hrd.2.1 (str_ne _)
              have rr_ := rr.set (b := g) (i := 1) (u := .bool false) hRg
              have U_ := U.set (c := g) (i := 1) (u := .bool false) ngu
              have V_ := V.set (c := g) (i := 1) (u := .bool false) ngv
              have hrd_ := hrd.set1 (c := false)
              have AP_ := AP.set (i := 1) (u := .bool false)
              rw [← hX] at ns_ rr_ U_ V_ hrd_ AP_
              clear hX ns rr U V hrd AP
              have ns := ns_
              have rr := rr_
              have U := U_
              have V := V_
              have hrd := hrd_
              have AP := AP_
              clear ns_ rr_ U_ V_ hrd_ AP_
              obtain ⟨_, lR, ⟨r0, r1, r2, r3, r4⟩, f0, f1, f2, f3, f4⟩ := id rr
              replace HW := Lib.hid (HW.trans (AP.1.mono hgR))
              obtain ⟨z1, z2, z3⟩ := zero_form
              refine bodyPost_ret (v := .tuple #[.agg #[.bool false, .slice none 0 0, .bool false, .slice none 0 0, .slice none 0 0], .int .i64 3]) (by simp [results, Tryz.results84, go_sem, r0, r1, r2, r3, r4, f0, f1, f2, f3, f4]) rfl ?_
              have h := retNumE_fin (k := 3) (q := Cx.zero) (A1 := none) (A2 := none) (A3 := none) HW ⟨by rw [z1]; exact fun e => absurd rfl e, by rw [z2]; exact fun e => absurd rfl e, by rw [z3]; exact fun e => absurd rfl e⟩ (by omega) r0
              rw [z1, z2, z3, sn_zero, show ab 0 = 0 from rfl, ln_zero] at h
              rw [E1, E2]; exact h
            · have HE := Lib.hid he
              replace HKQ := Lib.hid (HKQ.out.trans (if_neg (fun h => h.elim hd he)))
              clear hd he
              refine (take_hit 105 [] g false _ hrd).mono ?_
              rintro e w8 ⟨rfl, hn, ap⟩
              replace rr := rr.ap ap hRg
              replace U := U.ap ap ngu
              replace V := V.ap ap ngv
              replace ns := ns.ap ap hrd
              replace AP := AP.trans ap
              replace hrd := hn
              clear ap
              have q0 := hrd.2.1
              have q1 := hrd.2.2.1
              have q2 := hrd.2.2.2.2
              have t1 : decide (0 < ((bs []).size : Int)) = false := rfl
              have t2 : decide (0 < (bs []).size) = false := rfl
              have t3 : ((ln d : Int) == 0) = false := by have := ln_pos H0.out; rw [beq_eq_false_iff_ne]; omega
              have t4 : ((ln e : Int) == 0) = false := by have := ln_pos HE.out; rw [beq_eq_false_iff_ne]; omega
              obtain ⟨_, lR, ⟨r0, r1, r2, r3, r4⟩, f0, f1, f2, f3, f4⟩ := id rr
              obtain ⟨lbu, u0, u1, zu0, zu1⟩ := id U
              obtain ⟨lbv, v0, v1, zv0, zv1⟩ := id V
              go_wp2_with fail
              clear lR r0 r1 r2 r3 r4 f0 f1 f2 f3 f4 lbu u0 u1 zu0 zu1 lbv v0 v1 zv0 zv1 q0 q1 q2 t1 t2 t3 t4
              obtain ⟨X3, hX⟩ : ∃ X : World, X = w8.setCell ⟨g, 1, none⟩ (.bool false) := ⟨_, rfl⟩
              rw [← hX]
              have ns_ := ns.box (i := 1) (u := .bool false) hrd.2.1 (str_ne _)
              have rr_ := rr.set (b := g) (i := 1) (u := .bool false) hRg
              have U_ := U.set (c := g) (i := 1) (u := .bool false) ngu
              have V_ := V.set (c := g) (i := 1) (u := .bool false) ngv
              have hrd_ := hrd.set1 (c := false)
              have AP_ := AP.set (i := 1) (u := .bool false)
              rw [← hX] at ns_ rr_ U_ V_ hrd_ AP_
              clear hX ns rr U V hrd AP
              have ns := ns_
              have rr := rr_
              have U := U_
              have V := V_
              have hrd := hrd_
              have AP := AP_
              clear ns_ rr_ U_ V_ hrd_ AP_
              obtain ⟨x, hx⟩ : ∃ x, x = z * (e : Int) := ⟨_, rfl⟩
              obtain ⟨y, hy⟩ : ∃ y, y = z2 * (d : Int) := ⟨_, rfl⟩
              obtain ⟨m, hm⟩ : ∃ m, m = d * e := ⟨_, rfl⟩
              rw [← hx, ← hy, ← hm] at HKQ
              have HX := Lib.hid hx
              have HY := Lib.hid hy
              have HM := Lib.hid hm
              clear hx hy hm
              have BX : Hid (ln (ab x) ≤ 20000) := Lib.hid (by rw [HX.out]; exact Nat.le_trans (ab_mul_ln HZB.out.1 (ab_nat_ln HYB.out.2.2)) (by omega))
              have BY : Hid (ln (ab y) ≤ 20000) := Lib.hid (by rw [HY.out]; exact Nat.le_trans (ab_mul_ln HYB.out.1 (ab_nat_ln HZB.out.2.2)) (by omega))
              have BM : Hid (ln m ≤ 20000) := Lib.hid (by rw [HM.out]; exact Nat.le_trans (nat_mul_ln HZB.out.2.2 HYB.out.2.2) (by omega))
              go_region_held3 (fun w' => w'.cell? ⟨p + 1, 0, none⟩ = some (.bool (sn (z))) ∧ w'.cell? ⟨p + 1, 1, none⟩ = some (.slice Z (ln (ab (z))) (ln (ab (z)))) ∧ w'.cell? ⟨p + 1 + 1, 0, none⟩ = some (.bool (sn z2)) ∧ w'.cell? ⟨p + 1 + 1, 1, none⟩ = some (.slice Y (ln (ab z2)) (ln (ab z2)))) (first | with_reducible exact ⟨U.c0, U.c1, V.c0, V.c1⟩ | with_reducible exact ⟨keepd U.c0, keepd U.c1, keepd V.c0, keepd V.c1⟩ | with_reducible exact ⟨(keeps (keeps (keeps (keeps (keeps U.c0 nRu) nRu) nRu) nRu) nRu), (keeps (keeps (keeps (keeps (keeps U.c1 nRu) nRu) nRu) nRu) nRu), (keeps (keeps (keeps (keeps (keeps V.c0 nRv) nRv) nRv) nRv) nRv), (keeps (keeps (keeps (keeps (keeps V.c1 nRv) nRv) nRv) nRv) nRv)⟩) (first
                | (go_at_call_of 97 (Value.slice Z (ln (ab z)) (ln (ab z))); refine (scaled_to x z e HX.out Z E _ (by exact ns.at 4 rfl) (by exact ns.at 1 rfl) (Nat.le_trans HZB.out.1 (by omega)) (Nat.le_trans HYB.out.2.2 (by omega))).mono ?_; rintro e w9 ⟨Z1, rfl, hZ1, hb⟩; replace hb := undrew hb; have ap := Ap.of hb hrd.1; replace rr := rr.ap ap hRg; replace U := U.ap ap ngu; replace V := V.ap ap ngv; replace ns := ns.ap ap hrd; replace AP := AP.trans ap; replace hrd := hrd.to hb; clear ap hb)
                | (go_at_call_of 97 (Value.slice Y (ln (ab z2)) (ln (ab z2))); refine (scaled_to y z2 d HY.out Y M _ (by exact ns.at 0 rfl) (by exact ns.at 5 rfl) (Nat.le_trans HYB.out.1 (by omega)) (Nat.le_trans HZB.out.2.2 (by omega))).mono ?_; rintro e w10 ⟨Z2, rfl, hZ2, hb⟩; have ap := Ap.of hb hrd.1; replace rr := rr.ap ap hRg; replace U := U.ap ap ngu; replace V := V.ap ap ngv; replace ns := ns.ap ap hrd; replace hZ1 := ap.nat hrd hZ1; replace AP := AP.trans ap; replace hrd := hrd.to hb; clear ap hb)
                | (go_at_call 99; refine (mul_to m d e HM.out M E _ (by exact ns.at 5 rfl) (by exact ns.at 1 rfl) (Nat.le_trans HZB.out.2.2 (by omega)) (Nat.le_trans HYB.out.2.2 (by omega))).mono ?_; rintro e w11 ⟨Z3, rfl, hZ3, hb⟩; have ap := Ap.of hb hrd.1; replace rr := rr.ap ap hRg; replace U := U.ap ap ngu; replace V := V.ap ap ngv; replace ns := ns.ap ap hrd; replace hZ1 := ap.nat hrd hZ1; replace hZ2 := ap.nat hrd hZ2; replace AP := AP.trans ap; replace hrd := hrd.to hb; clear ap hb)
                | (go_at_call 96; refine (over_any x y m Z1 Z2 Z3 _ (by exact hZ1) (by exact hZ2) (by exact hZ3) (Nat.le_trans BX.out (by omega)) (Nat.le_trans BY.out (by omega)) (Nat.le_trans BM.out (by omega)) (by rw [HM.out]; exact Nat.mul_ne_zero H0.out HE.out)).mono ?_; rintro e w12 ⟨Q1, Q2, Q3, rfl, hQ, hb⟩; have ap := Ap.of hb hrd.1; replace rr := rr.ap ap hRg; replace U := U.ap ap ngu; replace V := V.ap ap ngv; replace ns := ns.ap ap hrd; replace hZ1 := ap.nat hrd hZ1; replace hZ2 := ap.nat hrd hZ2; replace hZ3 := ap.nat hrd hZ3; replace AP := AP.trans ap; replace hrd := hrd.to hb; clear ap hb; obtain ⟨_, lR, ⟨r0, r1, r2, r3, r4⟩, f0, f1, f2, f3, f4⟩ := id rr))
              go_wp2_with fail
              obtain ⟨E1, E2⟩ := kq HKQ.out
              replace HW := Lib.hid (HW.trans (AP.1.mono hgR))
              exact bodyPost_ret (v := .tuple #[.agg #[.bool (sn (na (fr x y m))), .slice Q1 (ln (ab (na (fr x y m)))) (ln (ab (na (fr x y m)))), .bool (sn (nb (fr x y m))), .slice Q2 (ln (ab (nb (fr x y m)))) (ln (ab (nb (fr x y m)))), .slice Q3 (ln (un (fr x y m))) (ln (un (fr x y m)))], .int .i64 0]) (by simp [results, Tryz.results84, go_sem, r0, r1, r2, r3, r4, f0, f1, f2, f3, f4]) rfl (by rw [E1, E2]; exact retNumE_fin HW hQ (by omega) r0)
        · have HT := Lib.hid ht
          obtain ⟨E1, E2⟩ := kq (HKQ.out.trans (if_pos (.inr (.inr ht))))
          clear ht
          refine (take_hit 105 t2 g false _ hrd).mono ?_
          rintro e w8 ⟨rfl, hn, ap⟩
          replace rr := rr.ap ap hRg
          replace U := U.ap ap ngu
          replace V := V.ap ap ngv
          replace ns := ns.ap ap hrd
          replace AP := AP.trans ap
          replace hrd := hn
          clear ap
          have q0 := hrd.2.1
          have q1 := hrd.2.2.1
          have q2 := hrd.2.2.2.2
          have t1 : decide (0 < ((bs t2).size : Int)) = true := by rw [bs_size, decide_eq_true_iff]; have := List.length_pos_iff.2 HT.out; omega
          have t2' : decide (0 < (bs t2).size) = true := by rw [bs_size, decide_eq_true_iff]; exact List.length_pos_iff.2 HT.out
          obtain ⟨_, lR, ⟨r0, r1, r2, r3, r4⟩, f0, f1, f2, f3, f4⟩ := id rr
          obtain ⟨lbu, u0, u1, zu0, zu1⟩ := id U
          obtain ⟨lbv, v0, v1, zv0, zv1⟩ := id V
          go_wp2_with fail
          clear lR r0 r1 r2 r3 r4 f0 f1 f2 f3 f4 lbu u0 u1 zu0 zu1 lbv v0 v1 zv0 zv1 q0 q1 q2 t1 t2'
          obtain ⟨X3, hX⟩ : ∃ X : World, X = w8.setCell ⟨g, 1, none⟩ (.bool false) := ⟨_, rfl⟩
          rw [← hX]
          have ns_ := ns.box (i := 1) (u := .bool false) hrd.2.1 (str_ne _)
          have rr_ := rr.set (b := g) (i := 1) (u := .bool false) hRg
          have U_ := U.set (c := g) (i := 1) (u := .bool false) ngu
          have V_ := V.set (c := g) (i := 1) (u := .bool false) ngv
          have hrd_ := hrd.set1 (c := false)
          have AP_ := AP.set (i := 1) (u := .bool false)
          rw [← hX] at ns_ rr_ U_ V_ hrd_ AP_
          clear hX ns rr U V hrd AP
          have ns := ns_
          have rr := rr_
          have U := U_
          have V := V_
          have hrd := hrd_
          have AP := AP_
          clear ns_ rr_ U_ V_ hrd_ AP_
          obtain ⟨_, lR, ⟨r0, r1, r2, r3, r4⟩, f0, f1, f2, f3, f4⟩ := id rr
          replace HW := Lib.hid (HW.trans (AP.1.mono hgR))
          obtain ⟨z1, z2, z3⟩ := zero_form
          refine bodyPost_ret (v := .tuple #[.agg #[.bool false, .slice none 0 0, .bool false, .slice none 0 0, .slice none 0 0], .int .i64 2]) (by simp [results, Tryz.results84, go_sem, r0, r1, r2, r3, r4, f0, f1, f2, f3, f4]) rfl ?_
          have h := retNumE_fin (k := 2) (q := Cx.zero) (A1 := none) (A2 := none) (A3 := none) HW ⟨by rw [z1]; exact fun e => absurd rfl e, by rw [z2]; exact fun e => absurd rfl e, by rw [z3]; exact fun e => absurd rfl e⟩ (by omega) r0
          rw [z1, z2, z3, sn_zero, show ab 0 = 0 from rfl, ln_zero] at h
          rw [E1, E2]; exact h
  · have H2 := Lib.hid h2
    obtain ⟨E1, E2⟩ := kq (HKQ.out.trans (if_pos (.inl h2)))
    clear h2
    refine (take_miss 105 sl g b2 _ hrd (fun x hx e => H2.out (by rw [← e]; exact hx))).mono ?_
    rintro e w8 ⟨rfl, hn, ap⟩
    replace rr := rr.ap ap hRg
    replace U := U.ap ap ngu
    replace V := V.ap ap ngv
    replace ns := ns.ap ap hrd
    replace AP := AP.trans ap
    replace hrd := hn
    clear ap
    have q0 := hrd.2.1
    have q1 := hrd.2.2.1
    have q2 := hrd.2.2.2.2
    obtain ⟨_, lR, ⟨r0, r1, r2, r3, r4⟩, f0, f1, f2, f3, f4⟩ := id rr
    obtain ⟨lbu, u0, u1, zu0, zu1⟩ := id U
    obtain ⟨lbv, v0, v1, zv0, zv1⟩ := id V
    go_wp2_with fail
    clear lR r0 r1 r2 r3 r4 f0 f1 f2 f3 f4 lbu u0 u1 zu0 zu1 lbv v0 v1 zv0 zv1 q0 q1 q2
    obtain ⟨X3, hX⟩ : ∃ X : World, X = w8.setCell ⟨g, 1, none⟩ (.bool true) := ⟨_, rfl⟩
    rw [← hX]
    have ns_ := ns.box (i := 1) (u := .bool true) hrd.2.1 (str_ne _)
    have rr_ := rr.set (b := g) (i := 1) (u := .bool true) hRg
    have U_ := U.set (c := g) (i := 1) (u := .bool true) ngu
    have V_ := V.set (c := g) (i := 1) (u := .bool true) ngv
    have hrd_ := hrd.set1 (c := true)
    have AP_ := AP.set (i := 1) (u := .bool true)
    rw [← hX] at ns_ rr_ U_ V_ hrd_ AP_
    clear hX ns rr U V hrd AP
    have ns := ns_
    have rr := rr_
    have U := U_
    have V := V_
    have hrd := hrd_
    have AP := AP_
    clear ns_ rr_ U_ V_ hrd_ AP_
    obtain ⟨_, lR, ⟨r0, r1, r2, r3, r4⟩, f0, f1, f2, f3, f4⟩ := id rr
    replace HW := Lib.hid (HW.trans (AP.1.mono hgR))
    obtain ⟨z1, z2, z3⟩ := zero_form
    refine bodyPost_ret (v := .tuple #[.agg #[.bool false, .slice none 0 0, .bool false, .slice none 0 0, .slice none 0 0], .int .i64 2]) (by simp [results, Tryz.results84, go_sem, r0, r1, r2, r3, r4, f0, f1, f2, f3, f4]) rfl ?_
    have h := retNumE_fin (k := 2) (q := Cx.zero) (A1 := none) (A2 := none) (A3 := none) HW ⟨by rw [z1]; exact fun e => absurd rfl e, by rw [z2]; exact fun e => absurd rfl e, by rw [z3]; exact fun e => absurd rfl e⟩ (by omega) r0
    rw [z1, z2, z3, sn_zero, show ab 0 = 0 from rfl, ln_zero] at h
    rw [E1, E2]; exact h

set_option maxHeartbeats 4000000 in
theorem parseG_false (l : List UInt8) (neg : Bool) (hneg : neg = decide (l.head? = some 45)) (n d : Nat) (b1 : Bool) (rl : List UInt8) (w : World) (hm : mgP false (sgr l) = ((n, d), b1, rl)) (hs : l.length ≤ 4096) (t : List UInt8) (hr1 : rl = 43 :: t) (n2 e : Nat) (b2 : Bool) (sl : List UInt8) (hk : mgP b1 t = ((n2, e), b2, sl)) (K : Int) (Q : Cx) (hKQ : (K, Q) = if sl.head? ≠ some 105 ∨ b2 = true ∨ sl.tail ≠ [] then (2, Cx.zero) else if d = 0 ∨ e = 0 then (3, Cx.zero) else (0, fr (zi neg n * (e : Int)) (zi false n2 * (d : Int)) (d * e))) :
    Calls Tryz.prog 84 #[.string (bs l)] w (RetNumE w K Q) := by
  have HS := Lib.hid hs
  have HMG := Lib.hid hm
  have HNG := Lib.hid hneg
  have HB := Lib.hid (mgP_ln (b := false) (l := sgr l) (K := 4098) (by have := sgr_le l; omega))
  rw [hm] at HB
  have HR := Lib.hid (mgP_len false (sgr l))
  rw [hm] at HR
  subst hr1
  have HK := Lib.hid hk
  have HB2 := Lib.hid (mgP_ln (b := b1) (l := t) (K := 4098) (by have := HR.out; have := sgr_le l; have := HS.out; simp only [List.length_cons] at *; omega))
  rw [hk] at HB2
  obtain ⟨Zn, hZn⟩ : ∃ Zn, Zn = zi neg n := ⟨_, rfl⟩
  obtain ⟨Yn, hYn⟩ : ∃ Yn, Yn = zi false n2 := ⟨_, rfl⟩
  rw [← hZn, ← hYn] at hKQ
  have HKQ := Lib.hid hKQ
  have HZN := Lib.hid hZn
  have HYN := Lib.hid hYn
  clear hk hKQ hZn hYn
  clear hs hm hneg
  go_enter Tryz.func84, Tryz.ntmps84
  have tl : decide (4096 < ((bs (l)).size : Int)) = false := by rw [bs_size, decide_eq_false_iff_not]; have := HS.out; omega
  go_wp2_with fail
  obtain ⟨W, hW⟩ : ∃ W : World, W = (w.alloc (.cells #[.bool false, .slice none 0 0, .bool false, .slice none 0 0, .slice none 0 0] 30)).alloc (.cells #[.string (bs (l)), .bool false] 174) := ⟨_, rfl⟩
  rw [← hW]
  have rr : NewVarN 0 w.heap.size W := by subst hW; exact ⟨Nat.zero_le _, by simp; omega, ⟨by go_simp, by go_simp, by go_simp, by go_simp, by go_simp⟩, by go_simp, by go_simp, by go_simp, by go_simp, by go_simp⟩
  have ns := NS.nil W
  have hrd : Rd W (w.heap.size + 1) (bs (l)) false := by subst hW; exact ⟨by simp, by go_simp, by go_simp, by go_simp, by go_simp⟩
  have HW : Below w.heap.size w W := by subst hW; exact ((Below.refl _ _).alloc (Nat.le_refl _) _).alloc (by simp) _
  clear hW tl
  have hRg : w.heap.size ≠ w.heap.size + 1 := by omega
  have AP : Ap (w.heap.size + 1) W W := Ap.refl _ _
  have hgR : w.heap.size ≤ w.heap.size + 1 := by omega
  generalize w.heap.size + 1 = g at *
  refine (take_list 45 l g false _ hrd).mono ?_
  rintro e w1 ⟨rfl, hn, ap⟩
  replace rr := rr.ap ap hRg
  replace ns := ns.ap ap hrd
  replace AP := AP.trans ap
  replace hrd := hn
  clear ap
  rw [sgr_def] at hrd
  rw [← HNG.out]
  obtain ⟨_, lR, ⟨r0, r1, r2, r3, r4⟩, f0, f1, f2, f3, f4⟩ := id rr
  go_wp2_with fail
  clear lR r0 r1 r2 r3 r4 f0 f1 f2 f3 f4
  have MG := mag_all (sgr l) g false _ hrd (by have := HS.out; have := sgr_le l; omega)
  rw [HMG.out] at MG
  dsimp only at MG HB HR
  refine MG.mono ?_
  rintro e w2 ⟨N, M, rfl, hN, hM, hn, ap⟩
  clear MG
  replace rr := rr.ap ap hRg
  replace ns := ns.ap ap hrd
  replace AP := AP.trans ap
  replace hrd := hn
  clear ap
  replace ns := ns.cons hN
  clear hN
  replace ns := ns.cons hM
  clear hM
  obtain ⟨_, lR, ⟨r0, r1, r2, r3, r4⟩, f0, f1, f2, f3, f4⟩ := id rr
  go_wp2_with fail
  clear lR r0 r1 r2 r3 r4 f0 f1 f2 f3 f4
  refine (wholeOf_any neg n N _ (by exact ns.at 1 rfl)).mono ?_
  rintro e w3 ⟨Z, rfl, hZ, hb⟩
  have ap := Ap.of hb hrd.1
  replace rr := rr.ap ap hRg
  replace ns := ns.ap ap hrd
  replace AP := AP.trans ap
  replace hrd := hrd.to hb
  clear ap hb
  replace ns := ns.cons hZ
  clear hZ
  obtain ⟨_, lR, ⟨r0, r1, r2, r3, r4⟩, f0, f1, f2, f3, f4⟩ := id rr
  go_wp2_with fail
  clear lR r0 r1 r2 r3 r4 f0 f1 f2 f3 f4
  have HZB : Hid (ln (ab (zi neg n)) ≤ 5098 ∧ ln n ≤ 5098 ∧ ln d ≤ 5098) := Lib.hid ⟨by rw [zi_ab]; exact HB.out.1, HB.out.1, HB.out.2⟩
  rw [← HZN.out] at *
  generalize Zn = z at *
  obtain ⟨X, hX⟩ : ∃ X : World, X = (((w3.alloc (.cells #[.int .u32 1] 45)).alloc (.cells #[.bool (sn (z)), .slice Z (ln (ab (z))) (ln (ab (z)))] 28)).alloc (.cells #[.bool false, .slice none 0 0] 28)) := ⟨_, rfl⟩
  rw [← hX]
  have hb : Below w3.heap.size w3 X := by subst hX; exact (((Below.refl _ _).alloc (Nat.le_refl _) _).alloc (by simp) _).alloc (by simp; omega) _
  have h1 : Nat32 X (some ⟨w3.heap.size, 0, none⟩) 1 := by subst hX; exact ((nat1_new _ _).alloc _).alloc _
  have U : WV X (w3.heap.size + 1) (.bool (sn (z))) (.slice Z (ln (ab (z))) (ln (ab (z)))) := by subst hX; exact ⟨by simp <;> omega, by go_simp, by go_simp, by go_simp, by go_simp⟩
  have ngu : w3.heap.size + 1 ≠ g := by have := hrd.1; omega
  have nRu : w3.heap.size + 1 ≠ w.heap.size := by have := rr.2.1; omega
  have V : WV X (w3.heap.size + 1 + 1) (.bool false) (.slice none 0 0) := by subst hX; exact ⟨by simp <;> omega, by go_simp, by go_simp, by go_simp, by go_simp⟩
  have ngv : w3.heap.size + 1 + 1 ≠ g := by have := hrd.1; omega
  have nRv : w3.heap.size + 1 + 1 ≠ w.heap.size := by have := rr.2.1; omega
  clear hX
  have hWp : W.heap.size ≤ w3.heap.size := AP.1.size
  have hgp : g ≤ w3.heap.size := Nat.le_of_lt hrd.1
  have ap := Ap.of hb hrd.1
  replace rr := rr.ap ap hRg
  replace ns := ns.ap ap hrd
  replace AP := AP.trans ap
  replace hrd := hrd.to hb
  clear ap hb
  generalize w3.heap.size = p at *
  replace ns := ns.cons h1
  clear h1
  refine (take_miss 105 (43 :: t) g b1 _ hrd (fun x hx => by simp at hx; subst hx; decide)).mono ?_
  rintro e w4 ⟨rfl, hn, ap⟩
  replace rr := rr.ap ap hRg
  replace U := U.ap ap ngu
  replace V := V.ap ap ngv
  replace ns := ns.ap ap hrd
  replace AP := AP.trans ap
  replace hrd := hn
  clear ap
  have q0 := hrd.2.1
  have t1 : decide (0 < ((bs (43 :: t)).size : Int)) = true := by rw [bs_size]; simp <;> omega
  have t2' : decide (0 < (bs (43 :: t)).size) = true := by rw [bs_size]; simp
  obtain ⟨_, lR, ⟨r0, r1, r2, r3, r4⟩, f0, f1, f2, f3, f4⟩ := id rr
  obtain ⟨lbu, u0, u1, zu0, zu1⟩ := id U
  obtain ⟨lbv, v0, v1, zv0, zv1⟩ := id V
  go_wp2_with fail
  clear lR r0 r1 r2 r3 r4 f0 f1 f2 f3 f4 lbu u0 u1 zu0 zu1 lbv v0 v1 zv0 zv1 q0 t1 t2'
  refine (take_miss 45 (43 :: t) g b1 _ hrd (fun x hx => by simp at hx; subst hx; decide)).mono ?_
  rintro e w5 ⟨rfl, hn, ap⟩
  replace rr := rr.ap ap hRg
  replace U := U.ap ap ngu
  replace V := V.ap ap ngv
  replace ns := ns.ap ap hrd
  replace AP := AP.trans ap
  replace hrd := hn
  clear ap
  obtain ⟨_, lR, ⟨r0, r1, r2, r3, r4⟩, f0, f1, f2, f3, f4⟩ := id rr
  obtain ⟨lbu, u0, u1, zu0, zu1⟩ := id U
  obtain ⟨lbv, v0, v1, zv0, zv1⟩ := id V
  go_wp2_with fail
  clear lR r0 r1 r2 r3 r4 f0 f1 f2 f3 f4 lbu u0 u1 zu0 zu1 lbv v0 v1 zv0 zv1
  refine (take_hit 43 t g b1 _ hrd).mono ?_
  rintro e w6 ⟨rfl, hn, ap⟩
  replace rr := rr.ap ap hRg
  replace U := U.ap ap ngu
  replace V := V.ap ap ngv
  replace ns := ns.ap ap hrd
  replace AP := AP.trans ap
  replace hrd := hn
  clear ap
  obtain ⟨_, lR, ⟨r0, r1, r2, r3, r4⟩, f0, f1, f2, f3, f4⟩ := id rr
  obtain ⟨lbu, u0, u1, zu0, zu1⟩ := id U
  obtain ⟨lbv, v0, v1, zv0, zv1⟩ := id V
  go_wp2_with fail
  clear lR r0 r1 r2 r3 r4 f0 f1 f2 f3 f4 lbu u0 u1 zu0 zu1 lbv v0 v1 zv0 zv1
  have MG := mag_all t g b1 _ hrd (by have := HS.out; have := HR.out; have := sgr_le l; simp only [List.length_cons] at *; omega)
  rw [HK.out] at MG
  dsimp only at MG HB2
  refine MG.mono ?_
  rintro e' w7 ⟨N2, E, rfl, hN2, hE, hn, ap⟩
  clear MG
  replace rr := rr.ap ap hRg
  replace U := U.ap ap ngu
  replace V := V.ap ap ngv
  replace ns := ns.ap ap hrd
  replace AP := AP.trans ap
  replace hrd := hn
  clear ap
  replace ns := ns.cons hN2
  clear hN2
  replace ns := ns.cons hE
  clear hE
  obtain ⟨_, lR, ⟨r0, r1, r2, r3, r4⟩, f0, f1, f2, f3, f4⟩ := id rr
  obtain ⟨lbu, u0, u1, zu0, zu1⟩ := id U
  obtain ⟨lbv, v0, v1, zv0, zv1⟩ := id V
  go_wp2_with fail
  clear lR r0 r1 r2 r3 r4 f0 f1 f2 f3 f4 lbu u0 u1 zu0 zu1 lbv v0 v1 zv0 zv1
  refine (wholeOf_any false n2 N2 _ (by exact ns.at 1 rfl)).mono ?_
  rintro e w8 ⟨Y, rfl, hY, hb⟩
  have ap := Ap.of hb hrd.1
  replace rr := rr.ap ap hRg
  replace U := U.ap ap ngu
  replace V := V.ap ap ngv
  replace ns := ns.ap ap hrd
  replace AP := AP.trans ap
  replace hrd := hrd.to hb
  clear ap hb
  replace ns := ns.cons hY
  clear hY
  obtain ⟨_, lR, ⟨r0, r1, r2, r3, r4⟩, f0, f1, f2, f3, f4⟩ := id rr
  obtain ⟨lbu, u0, u1, zu0, zu1⟩ := id U
  obtain ⟨lbv, v0, v1, zv0, zv1⟩ := id V
  go_wp2_with fail
  clear lR r0 r1 r2 r3 r4 f0 f1 f2 f3 f4 lbu u0 u1 zu0 zu1 lbv v0 v1 zv0 zv1
  have HYB : Hid (ln (ab (zi false n2)) ≤ 5098 ∧ ln n2 ≤ 5098 ∧ ln e ≤ 5098) := Lib.hid ⟨by rw [zi_ab]; exact HB2.out.1, HB2.out.1, HB2.out.2⟩
  rw [← HYN.out] at *
  generalize Yn = z2 at *
  obtain ⟨X1, hX⟩ : ∃ X : World, X = w8.setCell ⟨p + 1 + 1, 0, none⟩ (.bool (sn z2)) := ⟨_, rfl⟩
  rw [← hX]
  have ns_ := ns.box (i := 0) (u := .bool (sn z2)) V.c0 (bool_ne _)
  have rr_ := rr.set (b := p + 1 + 1) (i := 0) (u := .bool (sn z2)) (Ne.symm nRv)
  have U_ := U.set (c := p + 1 + 1) (i := 0) (u := .bool (sn z2)) (by omega)
  have V_ := V.put0 (u := .bool (sn z2))
  have hrd_ := hrd.other (i := 0) (u := .bool (sn z2)) ngv
  have AP_ := AP.new (R := p + 1 + 1) (i := 0) (u := .bool (sn z2)) (by omega) (by omega)
  rw [← hX] at ns_ rr_ U_ V_ hrd_ AP_
  clear hX ns rr U V hrd AP
  have ns := ns_
  have rr := rr_
  have U := U_
  have V := V_
  have hrd := hrd_
  have AP := AP_
  clear ns_ rr_ U_ V_ hrd_ AP_
  obtain ⟨X2, hX⟩ : ∃ X : World, X = X1.setCell ⟨p + 1 + 1, 1, none⟩ (.slice Y (ln (ab z2)) (ln (ab z2))) := ⟨_, rfl⟩
  rw [← hX]
  have ns_ := ns.box (i := 1) (u := .slice Y (ln (ab z2)) (ln (ab z2))) V.c0 (bool_ne _)
  have rr_ := rr.set (b := p + 1 + 1) (i := 1) (u := .slice Y (ln (ab z2)) (ln (ab z2))) (Ne.symm nRv)
  have U_ := U.set (c := p + 1 + 1) (i := 1) (u := .slice Y (ln (ab z2)) (ln (ab z2))) (by omega)
  have V_ := V.put1 (u := .slice Y (ln (ab z2)) (ln (ab z2)))
  have hrd_ := hrd.other (i := 1) (u := .slice Y (ln (ab z2)) (ln (ab z2))) ngv
  have AP_ := AP.new (R := p + 1 + 1) (i := 1) (u := .slice Y (ln (ab z2)) (ln (ab z2))) (by omega) (by omega)
  rw [← hX] at ns_ rr_ U_ V_ hrd_ AP_
  clear hX ns rr U V hrd AP
  have ns := ns_
  have rr := rr_
  have U := U_
  have V := V_
  have hrd := hrd_
  have AP := AP_
  clear ns_ rr_ U_ V_ hrd_ AP_
  by_cases h2 : sl.head? = some 105
  · cases sl with
    | nil => simp at h2
    | cons c2 t2 =>
      obtain rfl : c2 = 105 := by simpa using h2
      clear h2
      cases b2 with
      | true =>
        obtain ⟨E1, E2⟩ := kq (HKQ.out.trans (if_pos (.inr (.inl rfl))))
        refine (take_hit 105 t2 g true _ hrd).mono ?_
        rintro e w9 ⟨rfl, hn, ap⟩
        replace rr := rr.ap ap hRg
        replace U := U.ap ap ngu
        replace V := V.ap ap ngv
        replace ns := ns.ap ap hrd
        replace AP := AP.trans ap
        replace hrd := hn
        clear ap
        have q0 := hrd.2.1
        have q1 := hrd.2.2.1
        have q2 := hrd.2.2.2.2
        obtain ⟨_, lR, ⟨r0, r1, r2, r3, r4⟩, f0, f1, f2, f3, f4⟩ := id rr
        obtain ⟨lbu, u0, u1, zu0, zu1⟩ := id U
        obtain ⟨lbv, v0, v1, zv0, zv1⟩ := id V
        go_wp2_with fail
        clear lR r0 r1 r2 r3 r4 f0 f1 f2 f3 f4 lbu u0 u1 zu0 zu1 lbv v0 v1 zv0 zv1 q0 q1 q2
        obtain ⟨X3, hX⟩ : ∃ X : World, X = w9.setCell ⟨g, 1, none⟩ (.bool true) := ⟨_, rfl⟩
        rw [← hX]
        have ns_ := ns.box (i := 1) (u := .bool true) hrd.2.1 (str_ne _)
        have rr_ := rr.set (b := g) (i := 1) (u := .bool true) hRg
        have U_ := U.set (c := g) (i := 1) (u := .bool true) ngu
        have V_ := V.set (c := g) (i := 1) (u := .bool true) ngv
        have hrd_ := hrd.set1 (c := true)
        have AP_ := AP.set (i := 1) (u := .bool true)
        rw [← hX] at ns_ rr_ U_ V_ hrd_ AP_
        clear hX ns rr U V hrd AP
        have ns := ns_
        have rr := rr_
        have U := U_
        have V := V_
        have hrd := hrd_
        have AP := AP_
        clear ns_ rr_ U_ V_ hrd_ AP_
        obtain ⟨_, lR, ⟨r0, r1, r2, r3, r4⟩, f0, f1, f2, f3, f4⟩ := id rr
        replace HW := Lib.hid (HW.trans (AP.1.mono hgR))
        obtain ⟨z1, z2, z3⟩ := zero_form
        refine bodyPost_ret (v := .tuple #[.agg #[.bool false, .slice none 0 0, .bool false, .slice none 0 0, .slice none 0 0], .int .i64 2]) (by simp [results, Tryz.results84, go_sem, r0, r1, r2, r3, r4, f0, f1, f2, f3, f4]) rfl ?_
        have h := retNumE_fin (k := 2) (q := Cx.zero) (A1 := none) (A2 := none) (A3 := none) HW ⟨by rw [z1]; exact fun e => absurd rfl e, by rw [z2]; exact fun e => absurd rfl e, by rw [z3]; exact fun e => absurd rfl e⟩ (by omega) r0
        rw [z1, z2, z3, sn_zero, show ab 0 = 0 from rfl, ln_zero] at h
        rw [E1, E2]; exact h
      | false =>
        by_cases ht : t2 = []
        · subst ht
          replace HKQ := Lib.hid (HKQ.out.trans (if_neg (by simp)))
          by_cases hd : d = 0
          · have H0 := Lib.hid hd
            obtain ⟨E1, E2⟩ := kq (HKQ.out.trans (if_pos (.inl hd)))
            clear hd
            refine (take_hit 105 [] g false _ hrd).mono ?_
            rintro e w9 ⟨rfl, hn, ap⟩
            replace rr := rr.ap ap hRg
            replace U := U.ap ap ngu
            replace V := V.ap ap ngv
            replace ns := ns.ap ap hrd
            replace AP := AP.trans ap
            replace hrd := hn
            clear ap
            have q0 := hrd.2.1
            have q1 := hrd.2.2.1
            have q2 := hrd.2.2.2.2
            have t1 : decide (0 < ((bs []).size : Int)) = false := rfl
            have t2 : decide (0 < (bs []).size) = false := rfl
            have t3 : ((ln d : Int) == 0) = true := by rw [H0.out, ln_zero]; rfl
            obtain ⟨_, lR, ⟨r0, r1, r2, r3, r4⟩, f0, f1, f2, f3, f4⟩ := id rr
            obtain ⟨lbu, u0, u1, zu0, zu1⟩ := id U
            obtain ⟨lbv, v0, v1, zv0, zv1⟩ := id V
            go_wp2_with fail
            clear lR r0 r1 r2 r3 r4 f0 f1 f2 f3 f4 lbu u0 u1 zu0 zu1 lbv v0 v1 zv0 zv1 q0 q1 q2 t1 t2 t3
            obtain ⟨X3, hX⟩ : ∃ X : World, X = w9.setCell ⟨g, 1, none⟩ (.bool false) := ⟨_, rfl⟩
            rw [← hX]
            have ns_ := ns.box (i := 1) (u := .bool false) hrd.2.1 (str_ne _)
            have rr_ := rr.set (b := g) (i := 1) (u := .bool false) hRg
            have U_ := U.set (c := g) (i := 1) (u := .bool false) ngu
            have V_ := V.set (c := g) (i := 1) (u := .bool false) ngv
            have hrd_ := hrd.set1 (c := false)
            have AP_ := AP.set (i := 1) (u := .bool false)
            rw [← hX] at ns_ rr_ U_ V_ hrd_ AP_
            clear hX ns rr U V hrd AP
            have ns := ns_
            have rr := rr_
            have U := U_
            have V := V_
            have hrd := hrd_
            have AP := AP_
            clear ns_ rr_ U_ V_ hrd_ AP_
            obtain ⟨_, lR, ⟨r0, r1, r2, r3, r4⟩, f0, f1, f2, f3, f4⟩ := id rr
            replace HW := Lib.hid (HW.trans (AP.1.mono hgR))
            obtain ⟨z1, z2, z3⟩ := zero_form
            refine bodyPost_ret (v := .tuple #[.agg #[.bool false, .slice none 0 0, .bool false, .slice none 0 0, .slice none 0 0], .int .i64 3]) (by simp [results, Tryz.results84, go_sem, r0, r1, r2, r3, r4, f0, f1, f2, f3, f4]) rfl ?_
            have h := retNumE_fin (k := 3) (q := Cx.zero) (A1 := none) (A2 := none) (A3 := none) HW ⟨by rw [z1]; exact fun e => absurd rfl e, by rw [z2]; exact fun e => absurd rfl e, by rw [z3]; exact fun e => absurd rfl e⟩ (by omega) r0
            rw [z1, z2, z3, sn_zero, show ab 0 = 0 from rfl, ln_zero] at h
            rw [E1, E2]; exact h
          · have H0 := Lib.hid hd
            by_cases he : e = 0
            · have HE := Lib.hid he
              obtain ⟨E1, E2⟩ := kq (HKQ.out.trans (if_pos (.inr he)))
              clear hd he
              refine (take_hit 105 [] g false _ hrd).mono ?_
              rintro e w9 ⟨rfl, hn, ap⟩
              replace rr := rr.ap ap hRg
              replace U := U.ap ap ngu
              replace V := V.ap ap ngv
              replace ns := ns.ap ap hrd
              replace AP := AP.trans ap
              replace hrd := hn
              clear ap
              have q0 := hrd.2.1
              have q1 := hrd.2.2.1
              have q2 := hrd.2.2.2.2
              have t1 : decide (0 < ((bs []).size : Int)) = false := rfl
              have t2 : decide (0 < (bs []).size) = false := rfl
              have t3 : ((ln d : Int) == 0) = false := by have := ln_pos H0.out; rw [beq_eq_false_iff_ne]; omega
              have t4 : ((ln e : Int) == 0) = true := by rw [HE.out, ln_zero]; rfl
              obtain ⟨_, lR, ⟨r0, r1, r2, r3, r4⟩, f0, f1, f2, f3, f4⟩ := id rr
              obtain ⟨lbu, u0, u1, zu0, zu1⟩ := id U
              obtain ⟨lbv, v0, v1, zv0, zv1⟩ := id V
              go_wp2_with fail
              clear lR r0 r1 r2 r3 r4 f0 f1 f2 f3 f4 lbu u0 u1 zu0 zu1 lbv v0 v1 zv0 zv1 q0 q1 q2 t1 t2 t3 t4
              obtain ⟨X3, hX⟩ : ∃ X : World, X = w9.setCell ⟨g, 1, none⟩ (.bool false) := ⟨_, rfl⟩
              rw [← hX]
              have ns_ := ns.box (i := 1) (u := .bool false) hrd.2.1 (str_ne _)
              have rr_ := rr.set (b := g) (i := 1) (u := .bool false) hRg
              have U_ := U.set (c := g) (i := 1) (u := .bool false) ngu
              have V_ := V.set (c := g) (i := 1) (u := .bool false) ngv
              have hrd_ := hrd.set1 (c := false)
              have AP_ := AP.set (i := 1) (u := .bool false)
              rw [← hX] at ns_ rr_ U_ V_ hrd_ AP_
              clear hX ns rr U V hrd AP
              have ns := ns_
              have rr := rr_
              have U := U_
              have V := V_
              have hrd := hrd_
              have AP := AP_
              clear ns_ rr_ U_ V_ hrd_ AP_
              obtain ⟨_, lR, ⟨r0, r1, r2, r3, r4⟩, f0, f1, f2, f3, f4⟩ := id rr
              replace HW := Lib.hid (HW.trans (AP.1.mono hgR))
              obtain ⟨z1, z2, z3⟩ := zero_form
              refine bodyPost_ret (v := .tuple #[.agg #[.bool false, .slice none 0 0, .bool false, .slice none 0 0, .slice none 0 0], .int .i64 3]) (by simp [results, Tryz.results84, go_sem, r0, r1, r2, r3, r4, f0, f1, f2, f3, f4]) rfl ?_
              have h := retNumE_fin (k := 3) (q := Cx.zero) (A1 := none) (A2 := none) (A3 := none) HW ⟨by rw [z1]; exact fun e => absurd rfl e, by rw [z2]; exact fun e => absurd rfl e, by rw [z3]; exact fun e => absurd rfl e⟩ (by omega) r0
              rw [z1, z2, z3, sn_zero, show ab 0 = 0 from rfl, ln_zero] at h
              rw [E1, E2]; exact h
            · have HE := Lib.hid he
              replace HKQ := Lib.hid (HKQ.out.trans (if_neg (fun h => h.elim hd he)))
              clear hd he
              refine (take_hit 105 [] g false _ hrd).mono ?_
              rintro e w9 ⟨rfl, hn, ap⟩
              replace rr := rr.ap ap hRg
              replace U := U.ap ap ngu
              replace V := V.ap ap ngv
              replace ns := ns.ap ap hrd
              replace AP := AP.trans ap
              replace hrd := hn
              clear ap
              have q0 := hrd.2.1
              have q1 := hrd.2.2.1
              have q2 := hrd.2.2.2.2
              have t1 : decide (0 < ((bs []).size : Int)) = false := rfl
              have t2 : decide (0 < (bs []).size) = false := rfl
              have t3 : ((ln d : Int) == 0) = false := by have := ln_pos H0.out; rw [beq_eq_false_iff_ne]; omega
              have t4 : ((ln e : Int) == 0) = false := by have := ln_pos HE.out; rw [beq_eq_false_iff_ne]; omega
              obtain ⟨_, lR, ⟨r0, r1, r2, r3, r4⟩, f0, f1, f2, f3, f4⟩ := id rr
              obtain ⟨lbu, u0, u1, zu0, zu1⟩ := id U
              obtain ⟨lbv, v0, v1, zv0, zv1⟩ := id V
              go_wp2_with fail
              clear lR r0 r1 r2 r3 r4 f0 f1 f2 f3 f4 lbu u0 u1 zu0 zu1 lbv v0 v1 zv0 zv1 q0 q1 q2 t1 t2 t3 t4
              obtain ⟨X3, hX⟩ : ∃ X : World, X = w9.setCell ⟨g, 1, none⟩ (.bool false) := ⟨_, rfl⟩
              rw [← hX]
              have ns_ := ns.box (i := 1) (u := .bool false) hrd.2.1 (str_ne _)
              have rr_ := rr.set (b := g) (i := 1) (u := .bool false) hRg
              have U_ := U.set (c := g) (i := 1) (u := .bool false) ngu
              have V_ := V.set (c := g) (i := 1) (u := .bool false) ngv
              have hrd_ := hrd.set1 (c := false)
              have AP_ := AP.set (i := 1) (u := .bool false)
              rw [← hX] at ns_ rr_ U_ V_ hrd_ AP_
              clear hX ns rr U V hrd AP
              have ns := ns_
              have rr := rr_
              have U := U_
              have V := V_
              have hrd := hrd_
              have AP := AP_
              clear ns_ rr_ U_ V_ hrd_ AP_
              obtain ⟨x, hx⟩ : ∃ x, x = z * (e : Int) := ⟨_, rfl⟩
              obtain ⟨y, hy⟩ : ∃ y, y = z2 * (d : Int) := ⟨_, rfl⟩
              obtain ⟨m, hm⟩ : ∃ m, m = d * e := ⟨_, rfl⟩
              rw [← hx, ← hy, ← hm] at HKQ
              have HX := Lib.hid hx
              have HY := Lib.hid hy
              have HM := Lib.hid hm
              clear hx hy hm
              have BX : Hid (ln (ab x) ≤ 20000) := Lib.hid (by rw [HX.out]; exact Nat.le_trans (ab_mul_ln HZB.out.1 (ab_nat_ln HYB.out.2.2)) (by omega))
              have BY : Hid (ln (ab y) ≤ 20000) := Lib.hid (by rw [HY.out]; exact Nat.le_trans (ab_mul_ln HYB.out.1 (ab_nat_ln HZB.out.2.2)) (by omega))
              have BM : Hid (ln m ≤ 20000) := Lib.hid (by rw [HM.out]; exact Nat.le_trans (nat_mul_ln HZB.out.2.2 HYB.out.2.2) (by omega))
              go_region_held3 (fun w' => w'.cell? ⟨p + 1, 0, none⟩ = some (.bool (sn (z))) ∧ w'.cell? ⟨p + 1, 1, none⟩ = some (.slice Z (ln (ab (z))) (ln (ab (z)))) ∧ w'.cell? ⟨p + 1 + 1, 0, none⟩ = some (.bool (sn z2)) ∧ w'.cell? ⟨p + 1 + 1, 1, none⟩ = some (.slice Y (ln (ab z2)) (ln (ab z2)))) (first | with_reducible exact ⟨U.c0, U.c1, V.c0, V.c1⟩ | with_reducible exact ⟨keepd U.c0, keepd U.c1, keepd V.c0, keepd V.c1⟩ | with_reducible exact ⟨(keeps (keeps (keeps (keeps (keeps U.c0 nRu) nRu) nRu) nRu) nRu), (keeps (keeps (keeps (keeps (keeps U.c1 nRu) nRu) nRu) nRu) nRu), (keeps (keeps (keeps (keeps (keeps V.c0 nRv) nRv) nRv) nRv) nRv), (keeps (keeps (keeps (keeps (keeps V.c1 nRv) nRv) nRv) nRv) nRv)⟩) (first
                | (go_at_call_of 97 (Value.slice Z (ln (ab z)) (ln (ab z))); refine (scaled_to x z e HX.out Z E _ (by exact ns.at 4 rfl) (by exact ns.at 1 rfl) (Nat.le_trans HZB.out.1 (by omega)) (Nat.le_trans HYB.out.2.2 (by omega))).mono ?_; rintro e w10 ⟨Z1, rfl, hZ1, hb⟩; replace hb := undrew hb; have ap := Ap.of hb hrd.1; replace rr := rr.ap ap hRg; replace U := U.ap ap ngu; replace V := V.ap ap ngv; replace ns := ns.ap ap hrd; replace AP := AP.trans ap; replace hrd := hrd.to hb; clear ap hb)
                | (go_at_call_of 97 (Value.slice Y (ln (ab z2)) (ln (ab z2))); refine (scaled_to y z2 d HY.out Y M _ (by exact ns.at 0 rfl) (by exact ns.at 5 rfl) (Nat.le_trans HYB.out.1 (by omega)) (Nat.le_trans HZB.out.2.2 (by omega))).mono ?_; rintro e w11 ⟨Z2, rfl, hZ2, hb⟩; have ap := Ap.of hb hrd.1; replace rr := rr.ap ap hRg; replace U := U.ap ap ngu; replace V := V.ap ap ngv; replace ns := ns.ap ap hrd; replace hZ1 := ap.nat hrd hZ1; replace AP := AP.trans ap; replace hrd := hrd.to hb; clear ap hb)
                | (go_at_call 99; refine (mul_to m d e HM.out M E _ (by exact ns.at 5 rfl) (by exact ns.at 1 rfl) (Nat.le_trans HZB.out.2.2 (by omega)) (Nat.le_trans HYB.out.2.2 (by omega))).mono ?_; rintro e w12 ⟨Z3, rfl, hZ3, hb⟩; have ap := Ap.of hb hrd.1; replace rr := rr.ap ap hRg; replace U := U.ap ap ngu; replace V := V.ap ap ngv; replace ns := ns.ap ap hrd; replace hZ1 := ap.nat hrd hZ1; replace hZ2 := ap.nat hrd hZ2; replace AP := AP.trans ap; replace hrd := hrd.to hb; clear ap hb)
                | (go_at_call 96; refine (over_any x y m Z1 Z2 Z3 _ (by exact hZ1) (by exact hZ2) (by exact hZ3) (Nat.le_trans BX.out (by omega)) (Nat.le_trans BY.out (by omega)) (Nat.le_trans BM.out (by omega)) (by rw [HM.out]; exact Nat.mul_ne_zero H0.out HE.out)).mono ?_; rintro e w13 ⟨Q1, Q2, Q3, rfl, hQ, hb⟩; have ap := Ap.of hb hrd.1; replace rr := rr.ap ap hRg; replace U := U.ap ap ngu; replace V := V.ap ap ngv; replace ns := ns.ap ap hrd; replace hZ1 := ap.nat hrd hZ1; replace hZ2 := ap.nat hrd hZ2; replace hZ3 := ap.nat hrd hZ3; replace AP := AP.trans ap; replace hrd := hrd.to hb; clear ap hb; obtain ⟨_, lR, ⟨r0, r1, r2, r3, r4⟩, f0, f1, f2, f3, f4⟩ := id rr))
              go_wp2_with fail
              obtain ⟨E1, E2⟩ := kq HKQ.out
              replace HW := Lib.hid (HW.trans (AP.1.mono hgR))
              exact bodyPost_ret (v := .tuple #[.agg #[.bool (sn (na (fr x y m))), .slice Q1 (ln (ab (na (fr x y m)))) (ln (ab (na (fr x y m)))), .bool (sn (nb (fr x y m))), .slice Q2 (ln (ab (nb (fr x y m)))) (ln (ab (nb (fr x y m)))), .slice Q3 (ln (un (fr x y m))) (ln (un (fr x y m)))], .int .i64 0]) (by simp [results, Tryz.results84, go_sem, r0, r1, r2, r3, r4, f0, f1, f2, f3, f4]) rfl (by rw [E1, E2]; exact retNumE_fin HW hQ (by omega) r0)
        · have HT := Lib.hid ht
          obtain ⟨E1, E2⟩ := kq (HKQ.out.trans (if_pos (.inr (.inr ht))))
          clear ht
          refine (take_hit 105 t2 g false _ hrd).mono ?_
          rintro e w9 ⟨rfl, hn, ap⟩
          replace rr := rr.ap ap hRg
          replace U := U.ap ap ngu
          replace V := V.ap ap ngv
          replace ns := ns.ap ap hrd
          replace AP := AP.trans ap
          replace hrd := hn
          clear ap
          have q0 := hrd.2.1
          have q1 := hrd.2.2.1
          have q2 := hrd.2.2.2.2
          have t1 : decide (0 < ((bs t2).size : Int)) = true := by rw [bs_size, decide_eq_true_iff]; have := List.length_pos_iff.2 HT.out; omega
          have t2' : decide (0 < (bs t2).size) = true := by rw [bs_size, decide_eq_true_iff]; exact List.length_pos_iff.2 HT.out
          obtain ⟨_, lR, ⟨r0, r1, r2, r3, r4⟩, f0, f1, f2, f3, f4⟩ := id rr
          obtain ⟨lbu, u0, u1, zu0, zu1⟩ := id U
          obtain ⟨lbv, v0, v1, zv0, zv1⟩ := id V
          go_wp2_with fail
          clear lR r0 r1 r2 r3 r4 f0 f1 f2 f3 f4 lbu u0 u1 zu0 zu1 lbv v0 v1 zv0 zv1 q0 q1 q2 t1 t2'
          obtain ⟨X3, hX⟩ : ∃ X : World, X = w9.setCell ⟨g, 1, none⟩ (.bool false) := ⟨_, rfl⟩
          rw [← hX]
          have ns_ := ns.box (i := 1) (u := .bool false) hrd.2.1 (str_ne _)
          have rr_ := rr.set (b := g) (i := 1) (u := .bool false) hRg
          have U_ := U.set (c := g) (i := 1) (u := .bool false) ngu
          have V_ := V.set (c := g) (i := 1) (u := .bool false) ngv
          have hrd_ := hrd.set1 (c := false)
          have AP_ := AP.set (i := 1) (u := .bool false)
          rw [← hX] at ns_ rr_ U_ V_ hrd_ AP_
          clear hX ns rr U V hrd AP
          have ns := ns_
          have rr := rr_
          have U := U_
          have V := V_
          have hrd := hrd_
          have AP := AP_
          clear ns_ rr_ U_ V_ hrd_ AP_
          obtain ⟨_, lR, ⟨r0, r1, r2, r3, r4⟩, f0, f1, f2, f3, f4⟩ := id rr
          replace HW := Lib.hid (HW.trans (AP.1.mono hgR))
          obtain ⟨z1, z2, z3⟩ := zero_form
          refine bodyPost_ret (v := .tuple #[.agg #[.bool false, .slice none 0 0, .bool false, .slice none 0 0, .slice none 0 0], .int .i64 2]) (by simp [results, Tryz.results84, go_sem, r0, r1, r2, r3, r4, f0, f1, f2, f3, f4]) rfl ?_
          have h := retNumE_fin (k := 2) (q := Cx.zero) (A1 := none) (A2 := none) (A3 := none) HW ⟨by rw [z1]; exact fun e => absurd rfl e, by rw [z2]; exact fun e => absurd rfl e, by rw [z3]; exact fun e => absurd rfl e⟩ (by omega) r0
          rw [z1, z2, z3, sn_zero, show ab 0 = 0 from rfl, ln_zero] at h
          rw [E1, E2]; exact h
  · have H2 := Lib.hid h2
    obtain ⟨E1, E2⟩ := kq (HKQ.out.trans (if_pos (.inl h2)))
    clear h2
    refine (take_miss 105 sl g b2 _ hrd (fun x hx e => H2.out (by rw [← e]; exact hx))).mono ?_
    rintro e w9 ⟨rfl, hn, ap⟩
    replace rr := rr.ap ap hRg
    replace U := U.ap ap ngu
    replace V := V.ap ap ngv
    replace ns := ns.ap ap hrd
    replace AP := AP.trans ap
    replace hrd := hn
    clear ap
    have q0 := hrd.2.1
    have q1 := hrd.2.2.1
    have q2 := hrd.2.2.2.2
    obtain ⟨_, lR, ⟨r0, r1, r2, r3, r4⟩, f0, f1, f2, f3, f4⟩ := id rr
    obtain ⟨lbu, u0, u1, zu0, zu1⟩ := id U
    obtain ⟨lbv, v0, v1, zv0, zv1⟩ := id V
    go_wp2_with fail
    clear lR r0 r1 r2 r3 r4 f0 f1 f2 f3 f4 lbu u0 u1 zu0 zu1 lbv v0 v1 zv0 zv1 q0 q1 q2
    obtain ⟨X3, hX⟩ : ∃ X : World, X = w9.setCell ⟨g, 1, none⟩ (.bool true) := ⟨_, rfl⟩
    rw [← hX]
    have ns_ := ns.box (i := 1) (u := .bool true) hrd.2.1 (str_ne _)
    have rr_ := rr.set (b := g) (i := 1) (u := .bool true) hRg
    have U_ := U.set (c := g) (i := 1) (u := .bool true) ngu
    have V_ := V.set (c := g) (i := 1) (u := .bool true) ngv
    have hrd_ := hrd.set1 (c := true)
    have AP_ := AP.set (i := 1) (u := .bool true)
    rw [← hX] at ns_ rr_ U_ V_ hrd_ AP_
    clear hX ns rr U V hrd AP
    have ns := ns_
    have rr := rr_
    have U := U_
    have V := V_
    have hrd := hrd_
    have AP := AP_
    clear ns_ rr_ U_ V_ hrd_ AP_
    obtain ⟨_, lR, ⟨r0, r1, r2, r3, r4⟩, f0, f1, f2, f3, f4⟩ := id rr
    replace HW := Lib.hid (HW.trans (AP.1.mono hgR))
    obtain ⟨z1, z2, z3⟩ := zero_form
    refine bodyPost_ret (v := .tuple #[.agg #[.bool false, .slice none 0 0, .bool false, .slice none 0 0, .slice none 0 0], .int .i64 2]) (by simp [results, Tryz.results84, go_sem, r0, r1, r2, r3, r4, f0, f1, f2, f3, f4]) rfl ?_
    have h := retNumE_fin (k := 2) (q := Cx.zero) (A1 := none) (A2 := none) (A3 := none) HW ⟨by rw [z1]; exact fun e => absurd rfl e, by rw [z2]; exact fun e => absurd rfl e, by rw [z3]; exact fun e => absurd rfl e⟩ (by omega) r0
    rw [z1, z2, z3, sn_zero, show ab 0 = 0 from rfl, ln_zero] at h
    rw [E1, E2]; exact h

end Go.Proofs.YtgpmlhpgdalheaaGreat

namespace Go.Proofs.YtgpmlhpgdalheaaGreat
open Go.RowKit Pl
set_option linter.unusedVariables false
set_option linter.unusedSimpArgs false

/-- What 'Parse' does behind the first magnitude. -/
def parseB (neg : Bool) (n d : Nat) (b1 : Bool) (rl : List UInt8) : Int × Cx :=
  if rl.head? = some 105 then
    (if b1 = true ∨ rl.tail ≠ [] then (2, Cx.zero) else if d = 0 then (3, Cx.zero) else (0, fr 0 (zi neg n) d))
  else if rl = [] then
    (if b1 = true then (2, Cx.zero) else if d = 0 then (3, Cx.zero) else (0, fr (zi neg n) 0 d))
  else if rl.head? = some 45 ∨ rl.head? = some 43 then
    (if (mgP b1 rl.tail).2.2.head? ≠ some 105 ∨ (mgP b1 rl.tail).2.1 = true ∨ (mgP b1 rl.tail).2.2.tail ≠ [] then (2, Cx.zero)
     else if d = 0 ∨ (mgP b1 rl.tail).1.2 = 0 then (3, Cx.zero)
     else (0, fr (zi neg n * ((mgP b1 rl.tail).1.2 : Int)) (zi (decide (rl.head? = some 45)) (mgP b1 rl.tail).1.1 * (d : Int)) (d * (mgP b1 rl.tail).1.2)))
  else (2, Cx.zero)
theorem parseP_def {l : List UInt8} (hl : ¬ 4096 < l.length) : parseP l = parseB (decide (l.head? = some 45)) (mgP false (sgr l)).1.1 (mgP false (sgr l)).1.2 (mgP false (sgr l)).2.1 (mgP false (sgr l)).2.2 := by
  unfold parseP; rw [if_neg hl]; rfl
/-- 'Parse'. -/
theorem parse_all (l : List UInt8) (w : World) : Calls Tryz.prog 84 #[.string (bs l)] w (RetNumE w (parseP l).1 (parseP l).2) := by
  by_cases hl : 4096 < l.length
  · have e : parseP l = (4, Cx.zero) := by unfold parseP; rw [if_pos hl]
    rw [e]; exact parseG_long l w hl
  · rw [parseP_def hl]
    have hs : l.length ≤ 4096 := by omega
    obtain ⟨neg, hneg⟩ : ∃ neg, neg = decide (l.head? = some 45) := ⟨_, rfl⟩
    obtain ⟨m, hm⟩ : ∃ m, mgP false (sgr l) = m := ⟨_, rfl⟩
    rw [hm, ← hneg]
    obtain ⟨⟨n, d⟩, b1, rl⟩ := m
    show Calls _ _ _ _ (RetNumE w (parseB neg n d b1 rl).1 (parseB neg n d b1 rl).2)
    cases rl with
    | nil =>
      cases hb : b1 with
      | true =>
        have e : parseB neg n d true [] = (2, Cx.zero) := by simp [parseB]
        rw [e]; exact parseG_real_bad l neg hneg n d b1 [] w hm hs rfl hb
      | false =>
        by_cases hd : d = 0
        · have e : parseB neg n d false [] = (3, Cx.zero) := by simp [parseB, hd]
          rw [e]; exact parseG_real_zero l neg hneg n d b1 [] w hm hs rfl hb hd
        · have e : parseB neg n d false [] = (0, fr (zi neg n) 0 d) := by simp [parseB, hd]
          rw [e]; exact parseG_real_ok l neg hneg n d b1 [] w hm hs rfl hb hd 0 rfl
    | cons c t =>
      by_cases hi : c = 105
      · subst hi
        cases hb : b1 with
        | true =>
          have e : parseB neg n d true (105 :: t) = (2, Cx.zero) := by simp [parseB]
          rw [e]; exact parseG_imag_bad l neg hneg n d b1 (105 :: t) w hm hs t rfl hb
        | false =>
          by_cases ht : t = []
          · subst ht
            by_cases hd : d = 0
            · have e : parseB neg n d false [105] = (3, Cx.zero) := by simp [parseB, hd]
              rw [e]; exact parseG_imag_zero l neg hneg n d b1 [105] w hm hs [] rfl rfl hb hd
            · have e : parseB neg n d false [105] = (0, fr 0 (zi neg n) d) := by simp [parseB, hd]
              rw [e]; exact parseG_imag_ok l neg hneg n d b1 [105] w hm hs [] rfl rfl hb hd 0 rfl
          · have e : parseB neg n d false (105 :: t) = (2, Cx.zero) := by simp [parseB, ht]
            rw [e]; exact parseG_imag_rest l neg hneg n d b1 (105 :: t) w hm hs t rfl ht hb
      · by_cases hg : c = 45 ∨ c = 43
        · obtain ⟨k, hk⟩ : ∃ k, mgP b1 t = k := ⟨_, rfl⟩
          have e : parseB neg n d b1 (c :: t) = if (mgP b1 t).2.2.head? ≠ some 105 ∨ (mgP b1 t).2.1 = true ∨ (mgP b1 t).2.2.tail ≠ [] then (2, Cx.zero)
               else if d = 0 ∨ (mgP b1 t).1.2 = 0 then (3, Cx.zero)
               else (0, fr (zi neg n * ((mgP b1 t).1.2 : Int)) (zi (decide (c = 45)) (mgP b1 t).1.1 * (d : Int)) (d * (mgP b1 t).1.2)) := by
            unfold parseB
            rw [if_neg (by simpa using hi), if_neg (by simp), if_pos (by simpa using hg)]
            simp only [List.head?_cons, List.tail_cons, Option.some.injEq]
          rw [e, hk]
          obtain ⟨⟨n2, e2⟩, b2, sl⟩ := k
          dsimp only
          rcases hg with rfl | rfl
          · exact parseG_true l neg hneg n d b1 (45 :: t) w hm hs t rfl n2 e2 b2 sl hk _ _ rfl
          · exact parseG_false l neg hneg n d b1 (43 :: t) w hm hs t rfl n2 e2 b2 sl hk _ _ rfl
        · have e : parseB neg n d b1 (c :: t) = (2, Cx.zero) := by
            unfold parseB
            rw [if_neg (by simpa using hi), if_neg (by simp), if_neg (by simpa using hg)]
          rw [e]
          exact parseG_none l neg hneg n d b1 (c :: t) w hm hs (by simp) (by simpa using hi) (by simpa using fun h => hg (.inl h)) (by simpa using fun h => hg (.inr h))
end Go.Proofs.YtgpmlhpgdalheaaGreat
