/- 'awake': the chapter's example. -/
import Derived.Test.YtgpmlhpgdalheaaGreatDet2
import Derived.Test.YtgpmlhpgdalheaaGreatText
import Derived.Test.YtgpmlhpgdalheaaGreatNear
namespace Go.Proofs.YtgpmlhpgdalheaaGreat
open Go.RowKit Pl
set_option linter.unusedVariables false
set_option linter.unusedSimpArgs false

theorem of_to (a b d : Int) (w : World) (ha : -9223372036854775808 ≤ a ∧ a ≤ 9223372036854775807) (hb : -9223372036854775808 ≤ b ∧ b ≤ 9223372036854775807) (hd : -9223372036854775808 ≤ d ∧ d ≤ 9223372036854775807) {q : Cx} (h : ofv a b d = q) :
    Calls Tryz.prog 58 #[.agg #[.int .i64 a, .int .i64 b, .int .i64 d]] w (RetNum w q) := h ▸ of_any a b d w ha hb hd
theorem int_to (n : Int) (w : World) (h1 : -9223372036854775808 ≤ n) (h2 : n ≤ 9223372036854775807) {q : Cx} (h : Cx.ofInt n = q) : Calls Tryz.prog 59 #[.int .i64 n] w (RetNum w q) := h ▸ int_any n w h1 h2
theorem text_to (x : Cx) (A1 A2 A3 : Option Addr) (w : World) (hx : Num3 w A1 A2 A3 x) (hs : sz 274877906944 x) {s : ByteArray} (h : textT x = s) :
    Calls Tryz.prog 95 #[.agg #[.bool (sn (na x)), .slice A1 (ln (ab (na x))) (ln (ab (na x))), .bool (sn (nb x)), .slice A2 (ln (ab (nb x))) (ln (ab (nb x))), .slice A3 (ln (un x)) (ln (un x))]] w (RetStr w s) := h ▸ text_any x A1 A2 A3 w hx hs
theorem norm_to (x : Cx) (A1 A2 A3 : Option Addr) (w : World) (hx : Num3 w A1 A2 A3 x) (hs : sz 137438953472 x) {q : Cx} (h : x.norm = q) :
    Calls Tryz.prog 38 #[.agg #[.bool (sn (na x)), .slice A1 (ln (ab (na x))) (ln (ab (na x))), .bool (sn (nb x)), .slice A2 (ln (ab (nb x))) (ln (ab (nb x))), .slice A3 (ln (un x)) (ln (un x))]] w (RetNum w q) := h ▸ norm_num x A1 A2 A3 w hx hs
theorem divx_to (x y : Cx) (A1 A2 A3 B1 B2 B3 : Option Addr) (w : World) (hx : Num3 w A1 A2 A3 x) (hy : Num3 w B1 B2 B3 y) (hsx : sz 137438953472 x) (hsy : sz 137438953472 y) (h0 : y ≠ Cx.zero) {q : Cx} (h : x.div y = q) :
    Calls Tryz.prog 32 #[.agg #[.bool (sn (na x)), .slice A1 (ln (ab (na x))) (ln (ab (na x))), .bool (sn (nb x)), .slice A2 (ln (ab (nb x))) (ln (ab (nb x))), .slice A3 (ln (un x)) (ln (un x))], .agg #[.bool (sn (na y)), .slice B1 (ln (ab (na y))) (ln (ab (na y))), .bool (sn (nb y)), .slice B2 (ln (ab (nb y))) (ln (ab (nb y))), .slice B3 (ln (un y)) (ln (un y))]] w (RetNumE w 0 q) := h ▸ div_num0 x y A1 A2 A3 B1 B2 B3 w hx hy hsx hsy h0
theorem det_to (w : World) (b g0 g1 k0 k1 c : Nat) (q00 q01 q10 q11 : Cx) (A1 A2 A3 B1 B2 B3 C1 C2 C3 E1 E2 E3 : Option Addr) (m0 : w.cell? ⟨b, 0, none⟩ = some (.slice (some ⟨g0, 0, none⟩) 2 k0)) (m1 : w.cell? ⟨b, 1, none⟩ = some (.slice (some ⟨g1, 0, none⟩) 2 k1)) (hb : b < w.heap.size) (V00 : VarAt w g0 q00 A1 A2 A3) (V01 : At5 w g0 q01 B1 B2 B3) (V10 : VarAt w g1 q10 C1 C2 C3) (V11 : At5 w g1 q11 E1 E2 E3) (z00 : sz 2 q00) (z01 : sz 2 q01) (z10 : sz 2 q10) (z11 : sz 2 q11) (h00 : q00 ≠ Cx.zero) (h11 : (q11.sub ((q10.div q00).mul q01)) ≠ Cx.zero) {q : Cx} (h : q00.mul (q11.sub ((q10.div q00).mul q01)) = q) :
    Calls Tryz.prog 94 #[.slice (some ⟨b, 0, none⟩) 2 c] w (RetNumE w 0 q) := h ▸ det2 w b g0 g1 k0 k1 c q00 q01 q10 q11 A1 A2 A3 B1 B2 B3 C1 C2 C3 E1 E2 E3 m0 m1 hb V00 V01 V10 V11 z00 z01 z10 z11 h00 h11

set_option maxRecDepth 100000 in
set_option maxHeartbeats 4000000 in
theorem awake0 (w : World) (xa xb xq xi x1 x2 x3 xd xn : Cx) (ha : ofv 1 2 0 = xa) (hb : ofv 3 (-1) 0 = xb) (hb0 : xb ≠ Cx.zero) (hq : xa.div xb = xq) (hi : ofv 0 1 0 = xi) (h1 : Cx.ofInt 1 = x1) (h2 : Cx.ofInt 2 = x2) (h3 : Cx.ofInt 3 = x3) (h10 : x1 ≠ Cx.zero) (hu : x3.sub ((x2.div x1).mul xi) ≠ Cx.zero) (hd : x1.mul (x3.sub ((x2.div x1).mul xi)) = xd) (hn : xq.norm = xn) (tq : textT xq = ⟨#[49, 47, 49, 48, 43, 55, 47, 49, 48, 105]⟩) (tn : textT xn = ⟨#[49, 47, 50]⟩) (td : textT xd = ⟨#[51, 45, 50, 105]⟩) (n1 : na xq = 1) (n2 : nb xq = 7) (n3 : nd xq = 10) (za : sz 2 xa) (zb : sz 2 xb) (zq : sz 100 xq) (zi : sz 2 xi) (z1 : sz 2 x1) (z2 : sz 2 x2) (z3 : sz 2 x3) (zd : sz 100 xd) (zn : sz 100 xn) :
    Calls Tryz.prog 23 #[] w (RetBool w true) := by
  have K : Hid (ofv 1 2 0 = xa ∧ ofv 3 (-1) 0 = xb ∧ xa.div xb = xq ∧ ofv 0 1 0 = xi ∧ Cx.ofInt 1 = x1 ∧ Cx.ofInt 2 = x2 ∧ Cx.ofInt 3 = x3 ∧ x1.mul (x3.sub ((x2.div x1).mul xi)) = xd ∧ xq.norm = xn ∧ textT xq = ⟨#[49, 47, 49, 48, 43, 55, 47, 49, 48, 105]⟩ ∧ textT xn = ⟨#[49, 47, 50]⟩ ∧ textT xd = ⟨#[51, 45, 50, 105]⟩) := Lib.hid ⟨ha, hb, hq, hi, h1, h2, h3, hd, hn, tq, tn, td⟩
  have N : Hid (na xq = 1 ∧ nb xq = 7 ∧ nd xq = 10) := Lib.hid ⟨n1, n2, n3⟩
  have Z : Hid (xb ≠ Cx.zero ∧ x1 ≠ Cx.zero ∧ x3.sub ((x2.div x1).mul xi) ≠ Cx.zero) := Lib.hid ⟨hb0, h10, hu⟩
  clear ha hb hb0 hq hi h1 h2 h3 h10 hu hd hn tq tn td n1 n2 n3
  have HW : Hid (Below w.heap.size w w) := Lib.hid (Below.refl _ _)
  have s1 : ∀ w, (binOp .eql 9 (.string ⟨#[49, 47, 49, 48, 43, 55, 47, 49, 48, 105]⟩) (.string ⟨#[49, 47, 49, 48, 43, 55, 47, 49, 48, 105]⟩)).run Tryz.prog w = .ok (.bool true) w := fun w => by kernel_rfl
  have s2 : ∀ w, (binOp .eql 9 (.string ⟨#[49, 47, 50]⟩) (.string ⟨#[49, 47, 50]⟩)).run Tryz.prog w = .ok (.bool true) w := fun w => by kernel_rfl
  have s3 : ∀ w, (binOp .eql 9 (.string ⟨#[51, 45, 50, 105]⟩) (.string ⟨#[51, 45, 50, 105]⟩)).run Tryz.prog w = .ok (.bool true) w := fun w => by kernel_rfl
  have fb := f64bits
  have gb : ∀ w : World, (callFunc 92 #[.float .f64 4591870180066957722]).run Tryz.prog w = .ok (.value (.int .u64 4591870180066957722)) w := fun w => f64bits 4591870180066957722 w
  go_enter Tryz.func23, Tryz.ntmps23
  go_wp2_with fail
  refine (of_to 1 2 0 _ (by omega) (by omega) (by omega) K.out.1).mono ?_
  rintro e w1 ⟨A1, A2, A3, rfl, ya, hb1⟩
  replace HW := Lib.hid (hstep HW hb1); clear hb1
  go_wp2_with fail
  refine (of_to 3 (-1) 0 _ (by omega) (by omega) (by omega) K.out.2.1).mono ?_
  rintro e w2 ⟨B1, B2, B3, rfl, yb, hb2⟩
  replace ya := ya.to hb2; replace HW := Lib.hid (hstep HW hb2); clear hb2
  go_wp2_with fail
  refine (divx_to xa xb A1 A2 A3 B1 B2 B3 _ (by exact ya) (by exact yb) (za.mono (by decide)) (zb.mono (by decide)) Z.out.1 K.out.2.2.1).mono ?_
  rintro e w3 ⟨Q1, Q2, Q3, rfl, yq, hb3⟩
  replace ya := ya.to hb3; replace yb := yb.to hb3; replace HW := Lib.hid (hstep HW hb3); clear hb3
  go_wp2_with fail
  clear ya yb
  obtain ⟨X1, hX1⟩ : ∃ X : World, X = w3.alloc (.cells #[.bool (sn (na xq)), .slice Q1 (ln (ab (na xq))) (ln (ab (na xq))), .bool (sn (nb xq)), .slice Q2 (ln (ab (nb xq))) (ln (ab (nb xq))), .slice Q3 (ln (un xq)) (ln (un xq))] 30) := ⟨_, rfl⟩
  rw [← hX1]
  have bX1 : Below w3.heap.size w3 X1 := by rw [hX1]; exact (Below.refl _ _).alloc (Nat.le_refl _) _
  have Vq : VarAt X1 w3.heap.size xq Q1 Q2 Q3 := ⟨by rw [hX1]; simp, ⟨by subst hX1; go_simp, by subst hX1; go_simp, by subst hX1; go_simp, by subst hX1; go_simp, by subst hX1; go_simp⟩, yq.to bX1⟩
  clear hX1
  replace yq := yq.to bX1; replace HW := Lib.hid (hstep HW bX1); clear bX1
  clear yq
  generalize w3.heap.size = gq at *
  refine (int_to 1 _ (by omega) (by omega) K.out.2.2.2.2.1).mono ?_
  rintro e w4 ⟨C1, C2, C3, rfl, y1, hb4⟩
  replace Vq := Vq.to hb4; replace HW := Lib.hid (hstep HW hb4); clear hb4
  go_wp2_with fail
  refine (of_to 0 1 0 _ (by omega) (by omega) (by omega) K.out.2.2.2.1).mono ?_
  rintro e w5 ⟨I1, I2, I3, rfl, yi, hb5⟩
  replace Vq := Vq.to hb5; replace y1 := y1.to hb5; replace HW := Lib.hid (hstep HW hb5); clear hb5
  go_wp2_with fail
  obtain ⟨X2, hX2⟩ : ∃ X : World, X = w5.alloc (.cells #[.bool (sn (na x1)), .slice C1 (ln (ab (na x1))) (ln (ab (na x1))), .bool (sn (nb x1)), .slice C2 (ln (ab (nb x1))) (ln (ab (nb x1))), .slice C3 (ln (un x1)) (ln (un x1)), .bool (sn (na xi)), .slice I1 (ln (ab (na xi))) (ln (ab (na xi))), .bool (sn (nb xi)), .slice I2 (ln (ab (nb xi))) (ln (ab (nb xi))), .slice I3 (ln (un xi)) (ln (un xi))] 30) := ⟨_, rfl⟩
  rw [← hX2]
  have bX2 : Below w5.heap.size w5 X2 := by rw [hX2]; exact (Below.refl _ _).alloc (Nat.le_refl _) _
  have R00 : VarAt X2 w5.heap.size x1 C1 C2 C3 := ⟨by rw [hX2]; simp, ⟨by subst hX2; go_simp, by subst hX2; go_simp, by subst hX2; go_simp, by subst hX2; go_simp, by subst hX2; go_simp⟩, y1.to bX2⟩
  have R01 : At5 X2 w5.heap.size xi I1 I2 I3 := ⟨by rw [hX2]; simp, ⟨by subst hX2; go_simp, by subst hX2; go_simp, by subst hX2; go_simp, by subst hX2; go_simp, by subst hX2; go_simp⟩, yi.to bX2⟩
  clear hX2
  replace Vq := Vq.to bX2; replace y1 := y1.to bX2; replace yi := yi.to bX2; replace HW := Lib.hid (hstep HW bX2); clear bX2
  clear y1 yi
  generalize w5.heap.size = g0 at *
  refine (int_to 2 _ (by omega) (by omega) K.out.2.2.2.2.2.1).mono ?_
  rintro e w6 ⟨E1, E2, E3, rfl, y2, hb6⟩
  replace Vq := Vq.to hb6; replace R00 := R00.to hb6; replace R01 := R01.to hb6; replace HW := Lib.hid (hstep HW hb6); clear hb6
  go_wp2_with fail
  refine (int_to 3 _ (by omega) (by omega) K.out.2.2.2.2.2.2.1).mono ?_
  rintro e w7 ⟨F1, F2, F3, rfl, y3, hb7⟩
  replace Vq := Vq.to hb7; replace R00 := R00.to hb7; replace R01 := R01.to hb7; replace y2 := y2.to hb7; replace HW := Lib.hid (hstep HW hb7); clear hb7
  go_wp2_with fail
  obtain ⟨X3, hX3⟩ : ∃ X : World, X = w7.alloc (.cells #[.bool (sn (na x2)), .slice E1 (ln (ab (na x2))) (ln (ab (na x2))), .bool (sn (nb x2)), .slice E2 (ln (ab (nb x2))) (ln (ab (nb x2))), .slice E3 (ln (un x2)) (ln (un x2)), .bool (sn (na x3)), .slice F1 (ln (ab (na x3))) (ln (ab (na x3))), .bool (sn (nb x3)), .slice F2 (ln (ab (nb x3))) (ln (ab (nb x3))), .slice F3 (ln (un x3)) (ln (un x3))] 30) := ⟨_, rfl⟩
  rw [← hX3]
  have bX3 : Below w7.heap.size w7 X3 := by rw [hX3]; exact (Below.refl _ _).alloc (Nat.le_refl _) _
  have R10 : VarAt X3 w7.heap.size x2 E1 E2 E3 := ⟨by rw [hX3]; simp, ⟨by subst hX3; go_simp, by subst hX3; go_simp, by subst hX3; go_simp, by subst hX3; go_simp, by subst hX3; go_simp⟩, y2.to bX3⟩
  have R11 : At5 X3 w7.heap.size x3 F1 F2 F3 := ⟨by rw [hX3]; simp, ⟨by subst hX3; go_simp, by subst hX3; go_simp, by subst hX3; go_simp, by subst hX3; go_simp, by subst hX3; go_simp⟩, y3.to bX3⟩
  have hz3 : X3.heap.size = w7.heap.size + 1 := by rw [hX3]; simp
  clear hX3
  replace Vq := Vq.to bX3; replace R00 := R00.to bX3; replace R01 := R01.to bX3; replace y2 := y2.to bX3; replace y3 := y3.to bX3; replace HW := Lib.hid (hstep HW bX3); clear bX3
  clear y2 y3
  obtain ⟨X4, hX4⟩ : ∃ X : World, X = X3.alloc (.cells #[.slice (some ⟨g0, 0, none⟩) 2 2, .slice (some ⟨w7.heap.size, 0, none⟩) 2 2] 54) := ⟨_, rfl⟩
  rw [← hX4]
  have bX4 : Below X3.heap.size X3 X4 := by rw [hX4]; exact (Below.refl _ _).alloc (Nat.le_refl _) _
  have m0 : X4.cell? ⟨w7.heap.size + 1, 0, none⟩ = some (.slice (some ⟨g0, 0, none⟩) 2 2) := by rw [← hz3, hX4]; go_simp
  have m1 : X4.cell? ⟨w7.heap.size + 1, 1, none⟩ = some (.slice (some ⟨w7.heap.size, 0, none⟩) 2 2) := by rw [← hz3, hX4]; go_simp
  have hb4 : w7.heap.size + 1 < X4.heap.size := by rw [hX4, ← hz3]; simp
  clear hX4
  replace Vq := Vq.to bX4; replace R00 := R00.to bX4; replace R01 := R01.to bX4; replace R10 := R10.to bX4; replace R11 := R11.to bX4; replace HW := Lib.hid (hstep HW bX4); clear bX4
  refine (det_to _ (w7.heap.size + 1) g0 w7.heap.size 2 2 2 x1 xi x2 x3 C1 C2 C3 I1 I2 I3 E1 E2 E3 F1 F2 F3 m0 m1 hb4 R00 R01 R10 R11 z1 zi z2 z3 Z.out.2.1 Z.out.2.2 K.out.2.2.2.2.2.2.2.1).mono ?_
  rintro e w8 ⟨D1, D2, D3, rfl, yd, hb8⟩
  replace Vq := Vq.to hb8; replace R00 := R00.to hb8; replace R01 := R01.to hb8; replace R10 := R10.to hb8; replace R11 := R11.to hb8; replace HW := Lib.hid (hstep HW hb8); clear hb8
  clear R00 R01 R10 R11 m0 m1 hb4 hz3
  go_upto_region 4 with fail
  obtain ⟨X5, hX5⟩ : ∃ X : World, X = w8.alloc (.cells #[.bool (sn (na xd)), .slice D1 (ln (ab (na xd))) (ln (ab (na xd))), .bool (sn (nb xd)), .slice D2 (ln (ab (nb xd))) (ln (ab (nb xd))), .slice D3 (ln (un xd)) (ln (un xd))] 30) := ⟨_, rfl⟩
  rw [← hX5]
  have bX5 : Below w8.heap.size w8 X5 := by rw [hX5]; exact (Below.refl _ _).alloc (Nat.le_refl _) _
  have Vd : VarAt X5 w8.heap.size xd D1 D2 D3 := ⟨by rw [hX5]; simp, ⟨by subst hX5; go_simp, by subst hX5; go_simp, by subst hX5; go_simp, by subst hX5; go_simp, by subst hX5; go_simp⟩, yd.to bX5⟩
  clear hX5
  replace Vq := Vq.to bX5; replace yd := yd.to bX5; replace HW := Lib.hid (hstep HW bX5); clear bX5
  clear yd
  generalize w8.heap.size = gd at *
  obtain ⟨tq0, tq1, tq2, tq3, tq4⟩ := Vq.2.1
  obtain ⟨td0, td1, td2, td3, td4⟩ := Vd.2.1
  go_wp2_with fail
  refine (text_to xq Q1 Q2 Q3 _ (by exact Vq.2.2) (zq.mono (by decide)) K.out.2.2.2.2.2.2.2.2.2.1).mono ?_
  rintro e w9 ⟨rfl, hb9⟩
  replace Vq := Vq.to hb9; replace Vd := Vd.to hb9; replace HW := Lib.hid (hstep HW hb9); clear hb9
  clear tq0 tq1 tq2 tq3 tq4 td0 td1 td2 td3 td4
  obtain ⟨tq0, tq1, tq2, tq3, tq4⟩ := Vq.2.1
  obtain ⟨td0, td1, td2, td3, td4⟩ := Vd.2.1
  go_wp2_with fail
  refine (norm_to xq Q1 Q2 Q3 _ (by exact Vq.2.2) (zq.mono (by decide)) K.out.2.2.2.2.2.2.2.2.1).mono ?_
  rintro e w10 ⟨N1, N2, N3, rfl, yn, hb10⟩
  replace Vq := Vq.to hb10; replace Vd := Vd.to hb10; replace HW := Lib.hid (hstep HW hb10); clear hb10
  clear tq0 tq1 tq2 tq3 tq4 td0 td1 td2 td3 td4
  obtain ⟨tq0, tq1, tq2, tq3, tq4⟩ := Vq.2.1
  obtain ⟨td0, td1, td2, td3, td4⟩ := Vd.2.1
  go_wp2_with fail
  refine (text_to xn N1 N2 N3 _ (by exact yn) (zn.mono (by decide)) K.out.2.2.2.2.2.2.2.2.2.2.1).mono ?_
  rintro e w11 ⟨rfl, hb11⟩
  replace Vq := Vq.to hb11; replace Vd := Vd.to hb11; replace yn := yn.to hb11; replace HW := Lib.hid (hstep HW hb11); clear hb11
  clear tq0 tq1 tq2 tq3 tq4 td0 td1 td2 td3 td4
  obtain ⟨tq0, tq1, tq2, tq3, tq4⟩ := Vq.2.1
  obtain ⟨td0, td1, td2, td3, td4⟩ := Vd.2.1
  go_wp2_with fail
  clear yn
  refine (text_to xd D1 D2 D3 _ (by exact Vd.2.2) (zd.mono (by decide)) K.out.2.2.2.2.2.2.2.2.2.2.2).mono ?_
  rintro e w12 ⟨rfl, hb12⟩
  replace Vq := Vq.to hb12; replace Vd := Vd.to hb12; replace HW := Lib.hid (hstep HW hb12); clear hb12
  clear tq0 tq1 tq2 tq3 tq4 td0 td1 td2 td3 td4
  obtain ⟨tq0, tq1, tq2, tq3, tq4⟩ := Vq.2.1
  obtain ⟨td0, td1, td2, td3, td4⟩ := Vd.2.1
  go_wp2_with fail
  refine (near_a xq Q1 Q2 Q3 _ N.out.1 N.out.2.1 N.out.2.2 (by exact Vq.2.2)).mono ?_
  rintro e w13 ⟨rfl, hb13⟩
  replace Vq := Vq.to hb13; replace Vd := Vd.to hb13; replace HW := Lib.hid (hstep HW hb13); clear hb13
  clear tq0 tq1 tq2 tq3 tq4 td0 td1 td2 td3 td4
  obtain ⟨tq0, tq1, tq2, tq3, tq4⟩ := Vq.2.1
  obtain ⟨td0, td1, td2, td3, td4⟩ := Vd.2.1
  go_wp2_with fail
  exact bodyPost_ret (v := .bool true) (by simp [results, Tryz.results23, go_sem]) rfl ⟨rfl, HW.out⟩

end Go.Proofs.YtgpmlhpgdalheaaGreat
