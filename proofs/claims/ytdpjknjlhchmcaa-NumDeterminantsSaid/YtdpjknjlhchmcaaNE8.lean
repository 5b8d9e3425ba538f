/- The law 'NumDeterminants': the walk. The statement Rows.NumDeterminantsSaid: for every input the law returns true, and each argument reads behind the call as it read before. No condition. -/
import Derived.Test.YtdpjknjlhchmcaaNE7
import Derived.Test.YtdpjknjlhchmcaaNE4
import Derived.Test.YtdpjknjlhchmcaaNE3
import Derived.Test.YtdpjknjlhchmcaaRows
import Derived.Laws.IdiomArrays
namespace Go.Proofs.Ytdpjknjlhchmcaa
open Go.RowKit Pl
set_option linter.unusedVariables false
set_option linter.unusedSimpArgs false
theorem sz_sqm {w : World} {A : Option Addr} {k : Nat} {X Y Z : Nat → Int} (hT : Triples w A k X Y Z) (n i j : Nat) : sz 2 (sqm k n X Y Z i j) := by
  unfold sqm
  split
  · exact sz_int0.mono (by decide)
  · obtain ⟨_, _, _, _, _, _, _, rx, ry, rz⟩ := hT ((i * n + j) % k) (Nat.mod_lt _ (by omega))
    exact sz_of rx ry rz
theorem sz_dot {f g : Nat → Nat → Cx} {i k : Nat} : ∀ j, (∀ l, l < j → sz 2 (f i l) ∧ sz 2 (g l k)) → sz (6 * j + 1) (dotC f g i k j) := by
  intro j
  induction j with
  | zero => intro _; exact sz_int0
  | succ j ih => intro h; exact (sz_add2 (ih fun l hl => h l (by omega)) (sz_mul2 (h j (by omega)).1 (h j (by omega)).2)).mono (by omega)
theorem valid_const (n m : Nat) (h : n ≤ 32) (h2 : m ≤ 32) : Valid n (fun _ => m) := .inr ⟨h, h2, fun _ _ => rfl⟩
theorem col_same (n : Nat) : colN n (fun _ => n) = n := by
  unfold colN
  by_cases h : n = 0
  · rw [if_pos h, h]
  · rw [if_neg h]
theorem bd25 {n : Nat} (h : n ≤ 5) : bd 25 n ≤ 1000000 := Nat.le_trans (bd_mono 25 n 5 h) (by decide)
set_option maxRecDepth 100000 in
set_option maxHeartbeats 40000000 in
theorem determinants_walk (w : World) (A B : Option Addr) (k c lb d p0 p1 p2 : Nat) (X Y Z U V T : Nat → Int) (hT : Triples w A k X Y Z) (hU : Triples w B lb U V T) (hk : k ≤ maxLen) (hl : lb ≤ maxLen) (h0 : p0 < 256) (h1 : p1 < 256) (h2 : p2 < 256) :
    Calls Try.prog 3 #[.slice A k c, .slice B lb d, .agg #[.int .u8 p0, .int .u8 p1, .int .u8 p2]] w fun e w' => e = .returned (.bool true) ∧ Below w.heap.size w w' := by
  obtain ⟨n, hnn⟩ : ∃ n, n = p0 % 5 := ⟨_, rfl⟩
  have hn4 : n ≤ 4 := by omega
  have q0 : (p0 : Int).tmod 5 = (n : Int) := by rw [hnn]; rfl
  obtain ⟨sa, hsa⟩ : ∃ f, f = sqm k n X Y Z := ⟨_, rfl⟩
  obtain ⟨sb, hsb⟩ : ∃ f, f = sqm lb n U V T := ⟨_, rfl⟩
  have hza : ∀ i j, sz 2 (sa i j) := fun i j => by rw [hsa]; exact sz_sqm hT n i j
  have hzb : ∀ i j, sz 2 (sb i j) := fun i j => by rw [hsb]; exact sz_sqm hU n i j
  have hbd := bd25 (n := n) (by omega)
  obtain ⟨cx, hcx⟩ : ∃ q, q = detF n sa := ⟨_, rfl⟩
  obtain ⟨dx, hdx⟩ : ∃ q, q = detF n sb := ⟨_, rfl⟩
  obtain ⟨sp, hsp⟩ : ∃ f : Nat → Nat → Cx, f = fun i k => dotC sa sb i k n := ⟨_, rfl⟩
  obtain ⟨sq, hsq⟩ : ∃ f : Nat → Nat → Cx, f = fun i j => (sa j i).conj := ⟨_, rfl⟩
  obtain ⟨gx, hgx⟩ : ∃ q, q = detF n sp := ⟨_, rfl⟩
  obtain ⟨jx, hjx⟩ : ∃ q, q = detF n sq := ⟨_, rfl⟩
  have zp : ∀ i j, i < n → j < n → sz 25 (sp i j) := fun i j _ _ => by rw [hsp]; exact (sz_dot n fun l _ => ⟨hza i l, hzb l j⟩).mono (by omega)
  have zq : ∀ i j, i < n → j < n → sz 25 (sq i j) := fun i j _ _ => by rw [hsq]; exact (sz_conj (hza j i)).mono (by decide)
  have za : ∀ i j, i < n → j < n → sz 25 (sa i j) := fun i j _ _ => (hza i j).mono (by decide)
  have zb : ∀ i j, i < n → j < n → sz 25 (sb i j) := fun i j _ _ => (hzb i j).mono (by decide)
  have zcx : sz 10000000 cx := by rw [hcx]; exact (sz_detF (by omega) (by decide) za).mono (by omega)
  have zdx : sz 10000000 dx := by rw [hdx]; exact (sz_detF (by omega) (by decide) zb).mono (by omega)
  have zgx : sz 10000000 gx := by rw [hgx]; exact (sz_detF (by omega) (by decide) zp).mono (by omega)
  have zjx : sz 10000000 jx := by rw [hjx]; exact (sz_detF (by omega) (by decide) zq).mono (by omega)
  have HL1 : Hid (decide (cx.mul dx = gx) = true) := Lib.hid (decide_eq_true (by rw [hcx, hdx, hgx, hsp]; exact (detF_mul hn4 sa sb).symm))
  have HL2 : Hid (decide (cx.conj = jx) = true) := Lib.hid (decide_eq_true (by rw [hcx, hjx, hsq]; exact (detF_adj hn4 sa).symm))
  have hL3 : ∀ r s, r < n → s < n → r ≠ s → detF n (swp r s sa) = cx.neg := fun r s hr hs hrs => by rw [hcx]; exact detF_swp hn4 hr hs hrs sa
  have HL3 := Lib.hid hL3
  have HZ := Lib.hid (And.intro zcx (And.intro zdx (And.intro zgx zjx)))
  have HD1 := Lib.hid (fun (W : World) (A : Option Addr) (m : Nat) (h : MatP W A n (fun _ => n) sa) => det_any W A n m 25 (fun _ => n) sa h (by omega) (fun _ _ => rfl) (by decide) (by omega) za)
  have HD2 := Lib.hid (fun (W : World) (A : Option Addr) (m : Nat) (h : MatP W A n (fun _ => n) sb) => det_any W A n m 25 (fun _ => n) sb h (by omega) (fun _ _ => rfl) (by decide) (by omega) zb)
  have HD3 := Lib.hid (fun (W : World) (A : Option Addr) (m : Nat) (h : MatP W A n (fun _ => n) sp) => det_any W A n m 25 (fun _ => n) sp h (by omega) (fun _ _ => rfl) (by decide) (by omega) zp)
  have HD4 := Lib.hid (fun (W : World) (A : Option Addr) (m : Nat) (h : MatP W A n (fun _ => n) sq) => det_any W A n m 25 (fun _ => n) sq h (by omega) (fun _ _ => rfl) (by decide) (by omega) zq)
  have HD5 := Lib.hid (fun (W : World) (A : Option Addr) (m r s : Nat) (hr : r < n) (hs : s < n) (h : MatP W A n (fun _ => n) (swp r s sa)) => det_any W A n m 25 (fun _ => n) (swp r s sa) h (by omega) (fun _ _ => rfl) (by decide) (by omega) (sz_swp hr hs za))
  rw [← hcx] at HD1
  rw [← hdx] at HD2
  rw [← hgx] at HD3
  rw [← hjx] at HD4
  have HPR := Lib.hid (fun (W : World) (A B : Option Addr) (m m2 : Nat) (h : MatP W A n (fun _ => n) sa) (h' : MatP W B n (fun _ => n) sb) => product_ok W A B n m n m2 (fun _ => n) (fun _ => n) sa sb h h' (by omega) (fun _ _ => by omega) (by omega) (fun _ _ => by omega) (valid_const n n (by omega) (by omega)) (valid_const n n (by omega) (by omega)) (col_same n) (fun i k j _ _ _ => ⟨(hza i j).mono (by decide), (hzb j k).mono (by decide), (sz_dot j fun l _ => ⟨hza i l, hzb l k⟩).mono (by omega)⟩))
  have HAD := Lib.hid (fun (W : World) (A : Option Addr) (m : Nat) (h : MatP W A n (fun _ => n) sa) => adjoint_ok W A n m (fun _ => n) sa h (by omega) (fun _ _ => by omega) (valid_const n n (by omega) (by omega)))
  rw [col_same, ← hsp] at HPR
  rw [col_same, ← hsq] at HAD
  have HSA := Lib.hid (fun (W : World) (hb : Below w.heap.size w W) => sq_law W A k c n X Y Z (hT.to hb) (by omega) hk)
  have HSB := Lib.hid (fun (W : World) (hb : Below w.heap.size w W) => sq_law W B lb d n U V T (hU.to hb) (by omega) hl)
  rw [← hsa] at HSA
  rw [← hsb] at HSB
  have HP := Lib.hid (And.intro h1 h2)
  clear hnn hsa hsb hza hzb hbd hcx hdx hsp hsq hgx hjx zp zq za zb zcx zdx zgx zjx hL3 hT hU hk hl h1 h2
  go_enter Try.func3, Try.ntmps3
  go_upto_region 1 with fail
  obtain ⟨W0, hW0⟩ : ∃ X : World, X = w.alloc (.cells #[.int .u8 p0, .int .u8 p1, .int .u8 p2] 23) := ⟨_, rfl⟩
  obtain ⟨gP, hgP⟩ : ∃ g, g = w.heap.size := ⟨_, rfl⟩
  have a0 : W0.cell? ⟨gP, 0, none⟩ = some (.int .u8 p0) := by rw [hW0, hgP]; go_simp
  have a1 : W0.cell? ⟨gP, 1, none⟩ = some (.int .u8 p1) := by rw [hW0, hgP]; go_simp
  have a2 : W0.cell? ⟨gP, 2, none⟩ = some (.int .u8 p2) := by rw [hW0, hgP]; go_simp
  have al : gP < W0.heap.size := by rw [hW0, hgP]; simp
  have hb0 : Below w.heap.size w W0 := by rw [hW0]; exact (Below.refl _ _).alloc (Nat.le_refl _) _
  rw [← hW0, ← hgP]
  have HB := Lib.hid hb0
  have HP1 := Lib.hid a1
  have HP2 := Lib.hid a2
  clear hW0 hgP hb0 a1 a2
  go_upto_region 2 with fail
  clear q0 h0
  go_wp2_with fail
  refine (HSA.out _ HB.out).mono ?_
  rintro e w1 ⟨gx1, rfl, hx⟩
  have hb := hx.below
  replace HB := Lib.hid (HB.out.trans (hb.mono HB.out.size))
  replace HP1 := Lib.hid (keepc hb HP1.out al)
  replace HP2 := Lib.hid (keepc hb HP2.out al)
  replace al := Nat.lt_of_lt_of_le al hb.size
  clear a0
  have HX := Lib.hid hx.mat
  clear hx hb
  go_wp2_with fail
  refine (HSB.out _ HB.out).mono ?_
  rintro e w2 ⟨gy1, rfl, hy⟩
  have hb := hy.below
  replace HB := Lib.hid (HB.out.trans (hb.mono HB.out.size))
  replace HP1 := Lib.hid (keepc hb HP1.out al)
  replace HP2 := Lib.hid (keepc hb HP2.out al)
  replace al := Nat.lt_of_lt_of_le al hb.size
  replace HX := Lib.hid (HX.out.to hb)
  have HY := Lib.hid hy.mat
  clear hy hb
  go_wp2_with fail
  refine (HPR.out _ _ _ _ _ HX.out HY.out).mono ?_
  rintro e w3 ⟨P, cP, rfl, hP, hb⟩
  replace HB := Lib.hid (HB.out.trans (hb.mono HB.out.size))
  replace HP1 := Lib.hid (keepc hb HP1.out al)
  replace HP2 := Lib.hid (keepc hb HP2.out al)
  replace al := Nat.lt_of_lt_of_le al hb.size
  replace HX := Lib.hid (HX.out.to hb)
  replace HY := Lib.hid (HY.out.to hb)
  have HPM := Lib.hid hP
  clear hP hb
  go_wp2_with fail
  refine (HAD.out _ _ _ HX.out).mono ?_
  rintro e w4 ⟨Q, cQ, rfl, hQ, hb⟩
  replace HB := Lib.hid (HB.out.trans (hb.mono HB.out.size))
  replace HP1 := Lib.hid (keepc hb HP1.out al)
  replace HP2 := Lib.hid (keepc hb HP2.out al)
  replace al := Nat.lt_of_lt_of_le al hb.size
  replace HX := Lib.hid (HX.out.to hb)
  replace HY := Lib.hid (HY.out.to hb)
  replace HPM := Lib.hid (HPM.out.to hb)
  have HQM := Lib.hid hQ
  clear hQ hb HPR HAD HSB
  go_wp2_with fail
  refine (HD1.out _ _ _ HX.out).mono ?_
  rintro e w5 ⟨C11, C12, C13, rfl, hC, hb⟩
  replace HB := Lib.hid (HB.out.trans (hb.mono HB.out.size))
  replace HP1 := Lib.hid (keepc hb HP1.out al)
  replace HP2 := Lib.hid (keepc hb HP2.out al)
  replace al := Nat.lt_of_lt_of_le al hb.size
  replace HY := Lib.hid (HY.out.to hb)
  replace HPM := Lib.hid (HPM.out.to hb)
  replace HQM := Lib.hid (HQM.out.to hb)
  clear hb
  go_upto_region 8 with fail
  obtain ⟨v5, hv0⟩ : ∃ X : World, X = w5.alloc (.cells #[.bool (sn (na cx)), .slice C11 (ln (ab (na cx))) (ln (ab (na cx))), .bool (sn (nb cx)), .slice C12 (ln (ab (nb cx))) (ln (ab (nb cx))), .slice C13 (ln (un cx)) (ln (un cx))] 34) := ⟨_, rfl⟩
  have hv := hasP_new (T := 34) hC
  have hb : Below w5.heap.size w5 (w5.alloc (.cells #[.bool (sn (na cx)), .slice C11 (ln (ab (na cx))) (ln (ab (na cx))), .bool (sn (nb cx)), .slice C12 (ln (ab (nb cx))) (ln (ab (nb cx))), .slice C13 (ln (un cx)) (ln (un cx))] 34)) := (Below.refl _ _).alloc (Nat.le_refl _) _
  rw [← hv0] at hv hb ⊢
  obtain ⟨g14, hv1⟩ : ∃ g, g = w5.heap.size := ⟨_, rfl⟩
  rw [← hv1] at hv ⊢
  clear hv0 hv1
  replace HB := Lib.hid (HB.out.trans (hb.mono HB.out.size))
  replace HP1 := Lib.hid (keepc hb HP1.out al)
  replace HP2 := Lib.hid (keepc hb HP2.out al)
  replace al := Nat.lt_of_lt_of_le al hb.size
  replace HY := Lib.hid (HY.out.to hb)
  replace HPM := Lib.hid (HPM.out.to hb)
  replace HQM := Lib.hid (HQM.out.to hb)
  have HC := Lib.hid hv
  clear hb hC hv HX HD1
  go_wp2_with fail
  refine (HD2.out _ _ _ HY.out).mono ?_
  rintro e w6 ⟨E11, E12, E13, rfl, hE, hb⟩
  replace HB := Lib.hid (HB.out.trans (hb.mono HB.out.size))
  replace HP1 := Lib.hid (keepc hb HP1.out al)
  replace HP2 := Lib.hid (keepc hb HP2.out al)
  replace al := Nat.lt_of_lt_of_le al hb.size
  replace HPM := Lib.hid (HPM.out.to hb)
  replace HQM := Lib.hid (HQM.out.to hb)
  replace HC := Lib.hid (HC.out.to hb)
  clear hb
  go_upto_region 9 with fail
  obtain ⟨v6, hv0⟩ : ∃ X : World, X = w6.alloc (.cells #[.bool (sn (na dx)), .slice E11 (ln (ab (na dx))) (ln (ab (na dx))), .bool (sn (nb dx)), .slice E12 (ln (ab (nb dx))) (ln (ab (nb dx))), .slice E13 (ln (un dx)) (ln (un dx))] 34) := ⟨_, rfl⟩
  have hv := hasP_new (T := 34) hE
  have hb : Below w6.heap.size w6 (w6.alloc (.cells #[.bool (sn (na dx)), .slice E11 (ln (ab (na dx))) (ln (ab (na dx))), .bool (sn (nb dx)), .slice E12 (ln (ab (nb dx))) (ln (ab (nb dx))), .slice E13 (ln (un dx)) (ln (un dx))] 34)) := (Below.refl _ _).alloc (Nat.le_refl _) _
  rw [← hv0] at hv hb ⊢
  obtain ⟨g15, hv1⟩ : ∃ g, g = w6.heap.size := ⟨_, rfl⟩
  rw [← hv1] at hv ⊢
  clear hv0 hv1
  replace HB := Lib.hid (HB.out.trans (hb.mono HB.out.size))
  replace HP1 := Lib.hid (keepc hb HP1.out al)
  replace HP2 := Lib.hid (keepc hb HP2.out al)
  replace al := Nat.lt_of_lt_of_le al hb.size
  replace HPM := Lib.hid (HPM.out.to hb)
  replace HQM := Lib.hid (HQM.out.to hb)
  replace HC := Lib.hid (HC.out.to hb)
  have HE := Lib.hid hv
  clear hb hE hv HY HD2
  go_wp2_with fail
  refine (HD3.out _ _ _ HPM.out).mono ?_
  rintro e w7 ⟨G11, G12, G13, rfl, hG, hb⟩
  replace HB := Lib.hid (HB.out.trans (hb.mono HB.out.size))
  replace HP1 := Lib.hid (keepc hb HP1.out al)
  replace HP2 := Lib.hid (keepc hb HP2.out al)
  replace al := Nat.lt_of_lt_of_le al hb.size
  replace HQM := Lib.hid (HQM.out.to hb)
  replace HC := Lib.hid (HC.out.to hb)
  replace HE := Lib.hid (HE.out.to hb)
  clear hb
  go_upto_region 10 with fail
  obtain ⟨v7, hv0⟩ : ∃ X : World, X = w7.alloc (.cells #[.bool (sn (na gx)), .slice G11 (ln (ab (na gx))) (ln (ab (na gx))), .bool (sn (nb gx)), .slice G12 (ln (ab (nb gx))) (ln (ab (nb gx))), .slice G13 (ln (un gx)) (ln (un gx))] 34) := ⟨_, rfl⟩
  have hv := hasP_new (T := 34) hG
  have hb : Below w7.heap.size w7 (w7.alloc (.cells #[.bool (sn (na gx)), .slice G11 (ln (ab (na gx))) (ln (ab (na gx))), .bool (sn (nb gx)), .slice G12 (ln (ab (nb gx))) (ln (ab (nb gx))), .slice G13 (ln (un gx)) (ln (un gx))] 34)) := (Below.refl _ _).alloc (Nat.le_refl _) _
  rw [← hv0] at hv hb ⊢
  obtain ⟨g16, hv1⟩ : ∃ g, g = w7.heap.size := ⟨_, rfl⟩
  rw [← hv1] at hv ⊢
  clear hv0 hv1
  replace HB := Lib.hid (HB.out.trans (hb.mono HB.out.size))
  replace HP1 := Lib.hid (keepc hb HP1.out al)
  replace HP2 := Lib.hid (keepc hb HP2.out al)
  replace al := Nat.lt_of_lt_of_le al hb.size
  replace HQM := Lib.hid (HQM.out.to hb)
  replace HC := Lib.hid (HC.out.to hb)
  replace HE := Lib.hid (HE.out.to hb)
  have HG := Lib.hid hv
  clear hb hG hv HPM HD3
  go_wp2_with fail
  refine (HD4.out _ _ _ HQM.out).mono ?_
  rintro e w8 ⟨J11, J12, J13, rfl, hJ, hb⟩
  replace HB := Lib.hid (HB.out.trans (hb.mono HB.out.size))
  replace HP1 := Lib.hid (keepc hb HP1.out al)
  replace HP2 := Lib.hid (keepc hb HP2.out al)
  replace al := Nat.lt_of_lt_of_le al hb.size
  replace HC := Lib.hid (HC.out.to hb)
  replace HE := Lib.hid (HE.out.to hb)
  replace HG := Lib.hid (HG.out.to hb)
  clear hb
  go_upto_region 11 with fail
  obtain ⟨v8, hv0⟩ : ∃ X : World, X = w8.alloc (.cells #[.bool (sn (na jx)), .slice J11 (ln (ab (na jx))) (ln (ab (na jx))), .bool (sn (nb jx)), .slice J12 (ln (ab (nb jx))) (ln (ab (nb jx))), .slice J13 (ln (un jx)) (ln (un jx))] 34) := ⟨_, rfl⟩
  have hv := hasP_new (T := 34) hJ
  have hb : Below w8.heap.size w8 (w8.alloc (.cells #[.bool (sn (na jx)), .slice J11 (ln (ab (na jx))) (ln (ab (na jx))), .bool (sn (nb jx)), .slice J12 (ln (ab (nb jx))) (ln (ab (nb jx))), .slice J13 (ln (un jx)) (ln (un jx))] 34)) := (Below.refl _ _).alloc (Nat.le_refl _) _
  rw [← hv0] at hv hb ⊢
  obtain ⟨g18, hv1⟩ : ∃ g, g = w8.heap.size := ⟨_, rfl⟩
  rw [← hv1] at hv ⊢
  clear hv0 hv1
  replace HB := Lib.hid (HB.out.trans (hb.mono HB.out.size))
  replace HP1 := Lib.hid (keepc hb HP1.out al)
  replace HP2 := Lib.hid (keepc hb HP2.out al)
  replace al := Nat.lt_of_lt_of_le al hb.size
  replace HC := Lib.hid (HC.out.to hb)
  replace HE := Lib.hid (HE.out.to hb)
  replace HG := Lib.hid (HG.out.to hb)
  have HJ := Lib.hid hv
  clear hb hJ hv HQM HD4
  obtain ⟨C1, C2, C3, hcC, hnC⟩ := HC.out.slot
  obtain ⟨E1, E2, E3, hcE, hnE⟩ := HE.out.slot
  obtain ⟨G1, G2, G3, hcG, hnG⟩ := HG.out.slot
  obtain ⟨J1, J2, J3, hcJ, hnJ⟩ := HJ.out.slot
  have lC := HC.out.1; have lE := HE.out.1; have lG := HG.out.1; have lJ := HJ.out.1
  have hmx : max (max (max (0 : Int) 0) 0) 0 = 0 := by decide
  refine wp_region_any (by kernel_rfl) ?_
  refine wpAny_inv (fun l a' w' => ∃ V : Nat → Value, ∃ xa9 xa11 xa12 xa13 xa14 xa16 xa18 xa19 xa20 : Value, a' = ⟨List.toArray (.slice A k c :: .slice B lb d :: .agg #[.int .u8 ↑p0, .int .u8 ↑p1, .int .u8 ↑p2] :: undef :: undef :: .pointer (some ⟨gP, 0, none⟩) :: .bool false :: .int .i64 ↑n :: .slice (some ⟨gx1, 0, none⟩) n n :: .slice (some ⟨gy1, 0, none⟩) n n :: .slice P n cP :: .int .i64 0 :: .slice Q n cQ :: .int .i64 0 :: .pointer (some ⟨g14, 0, none⟩) :: .pointer (some ⟨g15, 0, none⟩) :: .pointer (some ⟨g16, 0, none⟩) :: .int .i64 0 :: .pointer (some ⟨g18, 0, none⟩) :: .int .i64 0 :: undef :: undef :: undef :: undef :: .pointer (some ⟨gP, 0, none⟩) :: .int .u8 ↑p0 :: .int .i64 ↑p0 :: .int .i64 ↑n :: .slice A k c :: .int .i64 ↑n :: .slice (some ⟨gx1, 0, none⟩) n n :: .slice B lb d :: .int .i64 ↑n :: .slice (some ⟨gy1, 0, none⟩) n n :: .tuple #[.slice P n cP, .int .i64 0] :: .slice (some ⟨gx1, 0, none⟩) n n :: .slice (some ⟨gy1, 0, none⟩) n n :: .tuple #[.slice P n cP, .int .i64 0] :: .slice P n cP :: .int .i64 0 :: .tuple #[.slice Q n cQ, .int .i64 0] :: .slice (some ⟨gx1, 0, none⟩) n n :: .tuple #[.slice Q n cQ, .int .i64 0] :: .slice Q n cQ :: .int .i64 0 :: .int .i64 0 :: .bool false :: .bool false :: .int .i64 0 :: .bool false :: .bool false :: .tuple #[.agg #[.bool (sn (na cx)), .slice C11 (ln (ab (na cx))) (ln (ab (na cx))), .bool (sn (nb cx)), .slice C12 (ln (ab (nb cx))) (ln (ab (nb cx))), .slice C13 (ln (un cx)) (ln (un cx))], .int .i64 0] :: .slice (some ⟨gx1, 0, none⟩) n n :: .tuple #[.agg #[.bool (sn (na cx)), .slice C11 (ln (ab (na cx))) (ln (ab (na cx))), .bool (sn (nb cx)), .slice C12 (ln (ab (nb cx))) (ln (ab (nb cx))), .slice C13 (ln (un cx)) (ln (un cx))], .int .i64 0] :: .agg #[.bool (sn (na cx)), .slice C11 (ln (ab (na cx))) (ln (ab (na cx))), .bool (sn (nb cx)), .slice C12 (ln (ab (nb cx))) (ln (ab (nb cx))), .slice C13 (ln (un cx)) (ln (un cx))] :: .int .i64 0 :: .tuple #[.agg #[.bool (sn (na dx)), .slice E11 (ln (ab (na dx))) (ln (ab (na dx))), .bool (sn (nb dx)), .slice E12 (ln (ab (nb dx))) (ln (ab (nb dx))), .slice E13 (ln (un dx)) (ln (un dx))], .int .i64 0] :: .slice (some ⟨gy1, 0, none⟩) n n :: .tuple #[.agg #[.bool (sn (na dx)), .slice E11 (ln (ab (na dx))) (ln (ab (na dx))), .bool (sn (nb dx)), .slice E12 (ln (ab (nb dx))) (ln (ab (nb dx))), .slice E13 (ln (un dx)) (ln (un dx))], .int .i64 0] :: .agg #[.bool (sn (na dx)), .slice E11 (ln (ab (na dx))) (ln (ab (na dx))), .bool (sn (nb dx)), .slice E12 (ln (ab (nb dx))) (ln (ab (nb dx))), .slice E13 (ln (un dx)) (ln (un dx))] :: .int .i64 0 :: .tuple #[.agg #[.bool (sn (na gx)), .slice G11 (ln (ab (na gx))) (ln (ab (na gx))), .bool (sn (nb gx)), .slice G12 (ln (ab (nb gx))) (ln (ab (nb gx))), .slice G13 (ln (un gx)) (ln (un gx))], .int .i64 0] :: .slice P n cP :: .tuple #[.agg #[.bool (sn (na gx)), .slice G11 (ln (ab (na gx))) (ln (ab (na gx))), .bool (sn (nb gx)), .slice G12 (ln (ab (nb gx))) (ln (ab (nb gx))), .slice G13 (ln (un gx)) (ln (un gx))], .int .i64 0] :: .agg #[.bool (sn (na gx)), .slice G11 (ln (ab (na gx))) (ln (ab (na gx))), .bool (sn (nb gx)), .slice G12 (ln (ab (nb gx))) (ln (ab (nb gx))), .slice G13 (ln (un gx)) (ln (un gx))] :: .int .i64 0 :: .tuple #[.agg #[.bool (sn (na jx)), .slice J11 (ln (ab (na jx))) (ln (ab (na jx))), .bool (sn (nb jx)), .slice J12 (ln (ab (nb jx))) (ln (ab (nb jx))), .slice J13 (ln (un jx)) (ln (un jx))], .int .i64 0] :: .slice Q n cQ :: .tuple #[.agg #[.bool (sn (na jx)), .slice J11 (ln (ab (na jx))) (ln (ab (na jx))), .bool (sn (nb jx)), .slice J12 (ln (ab (nb jx))) (ln (ab (nb jx))), .slice J13 (ln (un jx)) (ln (un jx))], .int .i64 0] :: .agg #[.bool (sn (na jx)), .slice J11 (ln (ab (na jx))) (ln (ab (na jx))), .bool (sn (nb jx)), .slice J12 (ln (ab (nb jx))) (ln (ab (nb jx))), .slice J13 (ln (un jx)) (ln (un jx))] :: .int .i64 0 :: V 0 :: V 1 :: V 2 :: V 3 :: V 4 :: V 5 :: V 6 :: V 7 :: V 8 :: xa9 :: V 10 :: xa11 :: xa12 :: xa13 :: xa14 :: V 15 :: xa16 :: V 17 :: xa18 :: xa19 :: xa20 :: undef :: undef :: undef :: undef :: undef :: undef :: undef :: undef :: undef :: undef :: undef :: undef :: undef :: undef :: undef :: undef :: undef :: undef :: undef :: undef :: undef :: undef :: undef :: undef :: undef :: undef :: undef :: undef :: undef :: undef :: undef :: undef :: undef :: undef :: undef :: undef :: undef :: undef :: undef :: undef :: undef :: undef :: undef :: undef :: undef :: undef :: undef :: undef :: undef :: undef :: []), []⟩ ∧ OnFix l V (fun zz => List.getD [.int .i64 0, .int .i64 0, .int .i64 0, .int .i64 0, .int .i64 0, .bool false, .bool false, .agg #[.bool (sn (na cx)), .slice C1 (ln (ab (na cx))) (ln (ab (na cx))), .bool (sn (nb cx)), .slice C2 (ln (ab (nb cx))) (ln (ab (nb cx))), .slice C3 (ln (un cx)) (ln (un cx))], .agg #[.bool (sn (na dx)), .slice E1 (ln (ab (na dx))) (ln (ab (na dx))), .bool (sn (nb dx)), .slice E2 (ln (ab (nb dx))) (ln (ab (nb dx))), .slice E3 (ln (un dx)) (ln (un dx))], undef, .agg #[.bool (sn (na gx)), .slice G1 (ln (ab (na gx))) (ln (ab (na gx))), .bool (sn (nb gx)), .slice G2 (ln (ab (nb gx))) (ln (ab (nb gx))), .slice G3 (ln (un gx)) (ln (un gx))], undef, undef, undef, undef, .agg #[.bool (sn (na cx)), .slice C1 (ln (ab (na cx))) (ln (ab (na cx))), .bool (sn (nb cx)), .slice C2 (ln (ab (nb cx))) (ln (ab (nb cx))), .slice C3 (ln (un cx)) (ln (un cx))], undef, .agg #[.bool (sn (na jx)), .slice J1 (ln (ab (na jx))) (ln (ab (na jx))), .bool (sn (nb jx)), .slice J2 (ln (ab (nb jx))) (ln (ab (nb jx))), .slice J3 (ln (un jx)) (ln (un jx))], undef, undef, undef] zz undef) [0, 1, 2, 3, 4, 5, 6, 7, 8, 10, 15, 17] ∧ (Below v8.heap.size v8 w' ∧ On l 9 (SlotNum w' xa9 (cx.mul dx)) ∧ On l 11 (SlotB w' xa11 true) ∧ On l 16 (SlotNum w' xa16 (cx.conj)) ∧ On l 18 (SlotB w' xa18 true)) ∧ On l 11 (xa11 = .bool true) ∧ On l 12 (xa12 = .bool false) ∧ On l 13 (xa13 = .bool false) ∧ On l 14 (xa14 = .bool false) ∧ On l 18 (xa18 = .bool true) ∧ On l 19 (xa19 = .bool false) ∧ On l 20 (xa20 = .bool false) ∧ l.size = 21) ?_ ?_ _ _ _ _ (by decide) ?_
  · intro l a' W' i hi hI
    obtain ⟨V, xa9, xa11, xa12, xa13, xa14, xa16, xa18, xa19, xa20, rfl, hv, hZ, hP11, hP12, hP13, hP14, hP18, hP19, hP20, hz⟩ := hI
    obtain ⟨hlt, hoff, hpre⟩ := ready_pre hi
    have hc : i ∈ [0, 1, 2, 3, 4, 5, 6, 7, 8, 9, 10, 11, 12, 13, 14, 15, 16, 17, 18, 19, 20] := (by decide : ∀ i, i < 21 → i ∈ [0, 1, 2, 3, 4, 5, 6, 7, 8, 9, 10, 11, 12, 13, 14, 15, 16, 17, 18, 19, 20]) i hlt
    simp only [List.mem_cons, List.not_mem_nil, or_false] at hc
    clear hi hlt
    rcases hc with rfl | rfl | rfl | rfl | rfl | rfl | rfl | rfl | rfl | rfl | rfl | rfl | rfl | rfl | rfl | rfl | rfl | rfl | rfl | rfl | rfl <;> (have hp := hpre _ rfl; simp [Region.binds] at hp; clear hpre)
    · skip
      have HV := Lib.hid hv
      clear hv
      refine wpOp_go rfl rfl (fun K hK => ?_)
      go_simp
      refine hK _ _ ?_
      exact ⟨_, _, _, _, _, _, _, _, _, _, rfl, HV.out.new (x := .int .i64 0) rfl, (fun ⟨hb0, y9, y11, y16, y18⟩ => ⟨hb0, y9.keep (by decide), y11.keep (by decide), y16.keep (by decide), y18.keep (by decide)⟩) hZ, hP11.keep (j := 0) (by decide), hP12.keep (j := 0) (by decide), hP13.keep (j := 0) (by decide), hP14.keep (j := 0) (by decide), hP18.keep (j := 0) (by decide), hP19.keep (j := 0) (by decide), hP20.keep (j := 0) (by decide), by simp [hz]⟩
    · skip
      have HV := Lib.hid hv
      clear hv
      refine wpOp_go rfl rfl (fun K hK => ?_)
      go_simp
      refine hK _ _ ?_
      exact ⟨_, _, _, _, _, _, _, _, _, _, rfl, HV.out.new (x := .int .i64 0) rfl, (fun ⟨hb0, y9, y11, y16, y18⟩ => ⟨hb0, y9.keep (by decide), y11.keep (by decide), y16.keep (by decide), y18.keep (by decide)⟩) hZ, hP11.keep (j := 1) (by decide), hP12.keep (j := 1) (by decide), hP13.keep (j := 1) (by decide), hP14.keep (j := 1) (by decide), hP18.keep (j := 1) (by decide), hP19.keep (j := 1) (by decide), hP20.keep (j := 1) (by decide), by simp [hz]⟩
    · skip
      have HV := Lib.hid hv
      clear hv
      refine wpOp_go rfl rfl (fun K hK => ?_)
      go_simp
      refine hK _ _ ?_
      exact ⟨_, _, _, _, _, _, _, _, _, _, rfl, HV.out.new (x := .int .i64 0) rfl, (fun ⟨hb0, y9, y11, y16, y18⟩ => ⟨hb0, y9.keep (by decide), y11.keep (by decide), y16.keep (by decide), y18.keep (by decide)⟩) hZ, hP11.keep (j := 2) (by decide), hP12.keep (j := 2) (by decide), hP13.keep (j := 2) (by decide), hP14.keep (j := 2) (by decide), hP18.keep (j := 2) (by decide), hP19.keep (j := 2) (by decide), hP20.keep (j := 2) (by decide), by simp [hz]⟩
    · skip
      have HV := Lib.hid hv
      clear hv
      refine wpOp_go rfl rfl (fun K hK => ?_)
      go_simp
      refine hK _ _ ?_
      exact ⟨_, _, _, _, _, _, _, _, _, _, rfl, HV.out.new (x := .int .i64 0) rfl, (fun ⟨hb0, y9, y11, y16, y18⟩ => ⟨hb0, y9.keep (by decide), y11.keep (by decide), y16.keep (by decide), y18.keep (by decide)⟩) hZ, hP11.keep (j := 3) (by decide), hP12.keep (j := 3) (by decide), hP13.keep (j := 3) (by decide), hP14.keep (j := 3) (by decide), hP18.keep (j := 3) (by decide), hP19.keep (j := 3) (by decide), hP20.keep (j := 3) (by decide), by simp [hz]⟩
    · skip
      have e0 : V 0 = .int .i64 0 := hv.get 0 (by decide) (by simp [hp])
      have e1 : V 1 = .int .i64 0 := hv.get 1 (by decide) (by simp [hp])
      have e2 : V 2 = .int .i64 0 := hv.get 2 (by decide) (by simp [hp])
      have e3 : V 3 = .int .i64 0 := hv.get 3 (by decide) (by simp [hp])
      have HV := Lib.hid ((((hv.fixE e0 rfl).fixE e1 rfl).fixE e2 rfl).fixE e3 rfl)
      clear hv
      simp only [e0, e1, e2, e3]
      refine wpOp_go rfl rfl (fun K hK => ?_)
      go_simp
      refine hK _ _ ?_
      exact ⟨_, _, _, _, _, _, _, _, _, _, rfl, HV.out.new (x := .int .i64 0) rfl, (fun ⟨hb0, y9, y11, y16, y18⟩ => ⟨hb0, y9.keep (by decide), y11.keep (by decide), y16.keep (by decide), y18.keep (by decide)⟩) hZ, hP11.keep (j := 4) (by decide), hP12.keep (j := 4) (by decide), hP13.keep (j := 4) (by decide), hP14.keep (j := 4) (by decide), hP18.keep (j := 4) (by decide), hP19.keep (j := 4) (by decide), hP20.keep (j := 4) (by decide), by simp [hz]⟩
    · skip
      have e4 : V 4 = .int .i64 0 := hv.get 4 (by decide) (by simp [hp])
      have HV := Lib.hid (hv.fixE e4 rfl)
      clear hv
      simp only [e4]
      refine wpOp_go rfl rfl (fun K hK => ?_)
      go_simp
      refine hK _ _ ?_
      exact ⟨_, _, _, _, _, _, _, _, _, _, rfl, HV.out.new (x := .bool false) rfl, (fun ⟨hb0, y9, y11, y16, y18⟩ => ⟨hb0, y9.keep (by decide), y11.keep (by decide), y16.keep (by decide), y18.keep (by decide)⟩) hZ, hP11.keep (j := 5) (by decide), hP12.keep (j := 5) (by decide), hP13.keep (j := 5) (by decide), hP14.keep (j := 5) (by decide), hP18.keep (j := 5) (by decide), hP19.keep (j := 5) (by decide), hP20.keep (j := 5) (by decide), by simp [hz]⟩
    · skip
      have e5 : V 5 = .bool false := hv.get 5 (by decide) (by simp [hp])
      have HV := Lib.hid (hv.fixE e5 rfl)
      clear hv
      simp only [e5]
      refine wpOp_go rfl rfl (fun K hK => ?_)
      go_simp
      refine hK _ _ ?_
      exact ⟨_, _, _, _, _, _, _, _, _, _, rfl, HV.out.new (x := .bool false) rfl, (fun ⟨hb0, y9, y11, y16, y18⟩ => ⟨hb0, y9.keep (by decide), y11.keep (by decide), y16.keep (by decide), y18.keep (by decide)⟩) hZ, hP11.keep (j := 6) (by decide), hP12.keep (j := 6) (by decide), hP13.keep (j := 6) (by decide), hP14.keep (j := 6) (by decide), hP18.keep (j := 6) (by decide), hP19.keep (j := 6) (by decide), hP20.keep (j := 6) (by decide), by simp [hz]⟩
    · skip
      have e6 : V 6 = .bool false := hv.get 6 (by decide) (by simp [hp])
      have HV := Lib.hid (hv.fixE e6 rfl)
      clear hv
      simp only [e6]
      have hY := hZ
      obtain ⟨z0, z1, z2, z3, z4⟩ := hcC
      have y0 := keepc hY.1 z0 lC; have y1 := keepc hY.1 z1 lC; have y2 := keepc hY.1 z2 lC; have y3 := keepc hY.1 z3 lC; have y4 := keepc hY.1 z4 lC
      refine wpOp_gg rfl rfl (fun K hK => ?_)
      go_simp
      refine hK _ _ ?_
      exact ⟨_, _, _, _, _, _, _, _, _, _, rfl, HV.out.new (x := .agg #[.bool (sn (na cx)), .slice C1 (ln (ab (na cx))) (ln (ab (na cx))), .bool (sn (nb cx)), .slice C2 (ln (ab (nb cx))) (ln (ab (nb cx))), .slice C3 (ln (un cx)) (ln (un cx))]) rfl, (fun ⟨hb0, y9, y11, y16, y18⟩ => ⟨hb0, y9.keep (by decide), y11.keep (by decide), y16.keep (by decide), y18.keep (by decide)⟩) hZ, hP11.keep (j := 7) (by decide), hP12.keep (j := 7) (by decide), hP13.keep (j := 7) (by decide), hP14.keep (j := 7) (by decide), hP18.keep (j := 7) (by decide), hP19.keep (j := 7) (by decide), hP20.keep (j := 7) (by decide), by simp [hz]⟩
    · skip
      have e6 : V 6 = .bool false := hv.get 6 (by decide) (by simp [hp])
      have HV := Lib.hid (hv.fixE e6 rfl)
      clear hv
      simp only [e6]
      have hY := hZ
      obtain ⟨z0, z1, z2, z3, z4⟩ := hcE
      have y0 := keepc hY.1 z0 lE; have y1 := keepc hY.1 z1 lE; have y2 := keepc hY.1 z2 lE; have y3 := keepc hY.1 z3 lE; have y4 := keepc hY.1 z4 lE
      refine wpOp_gg rfl rfl (fun K hK => ?_)
      go_simp
      refine hK _ _ ?_
      exact ⟨_, _, _, _, _, _, _, _, _, _, rfl, HV.out.new (x := .agg #[.bool (sn (na dx)), .slice E1 (ln (ab (na dx))) (ln (ab (na dx))), .bool (sn (nb dx)), .slice E2 (ln (ab (nb dx))) (ln (ab (nb dx))), .slice E3 (ln (un dx)) (ln (un dx))]) rfl, (fun ⟨hb0, y9, y11, y16, y18⟩ => ⟨hb0, y9.keep (by decide), y11.keep (by decide), y16.keep (by decide), y18.keep (by decide)⟩) hZ, hP11.keep (j := 8) (by decide), hP12.keep (j := 8) (by decide), hP13.keep (j := 8) (by decide), hP14.keep (j := 8) (by decide), hP18.keep (j := 8) (by decide), hP19.keep (j := 8) (by decide), hP20.keep (j := 8) (by decide), by simp [hz]⟩
    · skip
      have e7 : V 7 = .agg #[.bool (sn (na cx)), .slice C1 (ln (ab (na cx))) (ln (ab (na cx))), .bool (sn (nb cx)), .slice C2 (ln (ab (nb cx))) (ln (ab (nb cx))), .slice C3 (ln (un cx)) (ln (un cx))] := hv.get 7 (by decide) (by simp [hp])
      have e8 : V 8 = .agg #[.bool (sn (na dx)), .slice E1 (ln (ab (na dx))) (ln (ab (na dx))), .bool (sn (nb dx)), .slice E2 (ln (ab (nb dx))) (ln (ab (nb dx))), .slice E3 (ln (un dx)) (ln (un dx))] := hv.get 8 (by decide) (by simp [hp])
      have e6 : V 6 = .bool false := hv.get 6 (by decide) (by simp [hp])
      have HV := Lib.hid (((hv.fixE e7 rfl).fixE e8 rfl).fixE e6 rfl)
      clear hv
      simp only [e7, e8, e6]
      have hY := hZ
      refine wpOp_gg rfl rfl (fun K hK => ?_)
      go_wp2_with (first | (go_at_call 10; refine (mul_num cx dx C1 C2 C3 E1 E2 E3 _ (hnC.to hY.1) (hnE.to hY.1) (HZ.out.1.mono (by decide)) (HZ.out.2.1.mono (by decide))).mono ?_; rintro e wf ⟨F1, F2, F3, rfl, hNN, hb⟩))
      try refine hK _ _ ?_
      exact ⟨_, _, _, _, _, _, _, _, _, _, rfl, HV.out.other (by decide), ⟨hY.1.trans (hb.mono hY.1.size), On.new (⟨F1, F2, F3, rfl, hNN⟩), ((hY.2.2.1).keep (by decide)).map (fun h => h.to hb), ((hY.2.2.2.1).keep (by decide)).map (fun h => h.to hb), ((hY.2.2.2.2).keep (by decide)).map (fun h => h.to hb)⟩, hP11.keep (j := 9) (by decide), hP12.keep (j := 9) (by decide), hP13.keep (j := 9) (by decide), hP14.keep (j := 9) (by decide), hP18.keep (j := 9) (by decide), hP19.keep (j := 9) (by decide), hP20.keep (j := 9) (by decide), by simp [hz]⟩
    · skip
      have e6 : V 6 = .bool false := hv.get 6 (by decide) (by simp [hp])
      have HV := Lib.hid (hv.fixE e6 rfl)
      clear hv
      simp only [e6]
      have hY := hZ
      obtain ⟨z0, z1, z2, z3, z4⟩ := hcG
      have y0 := keepc hY.1 z0 lG; have y1 := keepc hY.1 z1 lG; have y2 := keepc hY.1 z2 lG; have y3 := keepc hY.1 z3 lG; have y4 := keepc hY.1 z4 lG
      refine wpOp_gg rfl rfl (fun K hK => ?_)
      go_simp
      refine hK _ _ ?_
      exact ⟨_, _, _, _, _, _, _, _, _, _, rfl, HV.out.new (x := .agg #[.bool (sn (na gx)), .slice G1 (ln (ab (na gx))) (ln (ab (na gx))), .bool (sn (nb gx)), .slice G2 (ln (ab (nb gx))) (ln (ab (nb gx))), .slice G3 (ln (un gx)) (ln (un gx))]) rfl, (fun ⟨hb0, y9, y11, y16, y18⟩ => ⟨hb0, y9.keep (by decide), y11.keep (by decide), y16.keep (by decide), y18.keep (by decide)⟩) hZ, hP11.keep (j := 10) (by decide), hP12.keep (j := 10) (by decide), hP13.keep (j := 10) (by decide), hP14.keep (j := 10) (by decide), hP18.keep (j := 10) (by decide), hP19.keep (j := 10) (by decide), hP20.keep (j := 10) (by decide), by simp [hz]⟩
    · skip
      have e10 : V 10 = .agg #[.bool (sn (na gx)), .slice G1 (ln (ab (na gx))) (ln (ab (na gx))), .bool (sn (nb gx)), .slice G2 (ln (ab (nb gx))) (ln (ab (nb gx))), .slice G3 (ln (un gx)) (ln (un gx))] := hv.get 10 (by decide) (by simp [hp])
      have e6 : V 6 = .bool false := hv.get 6 (by decide) (by simp [hp])
      have HV := Lib.hid ((hv.fixE e10 rfl).fixE e6 rfl)
      clear hv
      simp only [e10, e6]
      have hY := hZ
      obtain ⟨F1, F2, F3, e0, hNN⟩ := hY.2.1.get (by simp [hp])
      subst e0
      refine wpOp_gg rfl rfl (fun K hK => ?_)
      go_wp2_with (first | (go_at_call 11; refine (same_to (cx.mul dx) gx F1 F2 F3 G1 G2 G3 _ hNN (hnG.to hY.1) ((sz_mul2 HZ.out.1 HZ.out.2.1).mono (by decide)) (HZ.out.2.2.1.mono (by decide)) HL1.out).mono ?_; rintro e wf ⟨rfl, hb⟩))
      try refine hK _ _ ?_
      exact ⟨_, _, _, _, _, _, _, _, _, _, rfl, HV.out.other (by decide), ⟨hY.1.trans (hb.mono hY.1.size), ((hY.2.1).keep (by decide)).map (fun h => h.to hb), On.new (rfl), ((hY.2.2.2.1).keep (by decide)).map (fun h => h.to hb), ((hY.2.2.2.2).keep (by decide)).map (fun h => h.to hb)⟩, On.new (rfl), hP12.keep (j := 11) (by decide), hP13.keep (j := 11) (by decide), hP14.keep (j := 11) (by decide), hP18.keep (j := 11) (by decide), hP19.keep (j := 11) (by decide), hP20.keep (j := 11) (by decide), by simp [hz]⟩
    · skip
      have e6 : V 6 = .bool false := hv.get 6 (by decide) (by simp [hp])
      have HV := Lib.hid (hv.fixE e6 rfl)
      clear hv
      simp only [e6]
      have e11 := hP11.get (by simp [hp])
      subst e11
      refine wpOp_gg rfl rfl (fun K hK => ?_)
      go_simp
      refine hK _ _ ?_
      exact ⟨_, _, _, _, _, _, _, _, _, _, rfl, HV.out.other (by decide), (fun ⟨hb0, y9, y11, y16, y18⟩ => ⟨hb0, y9.keep (by decide), y11.keep (by decide), y16.keep (by decide), y18.keep (by decide)⟩) hZ, hP11.keep (j := 12) (by decide), On.new (rfl), hP13.keep (j := 12) (by decide), hP14.keep (j := 12) (by decide), hP18.keep (j := 12) (by decide), hP19.keep (j := 12) (by decide), hP20.keep (j := 12) (by decide), by simp [hz]⟩
    · skip
      have e6 : V 6 = .bool false := hv.get 6 (by decide) (by simp [hp])
      have HV := Lib.hid (hv.fixE e6 rfl)
      clear hv
      simp only [e6]
      have e12 := hP12.get (by simp [hp])
      subst e12
      refine wpOp_go rfl rfl (fun K hK => ?_)
      go_simp
      refine hK _ _ ?_
      exact ⟨_, _, _, _, _, _, _, _, _, _, rfl, HV.out.other (by decide), (fun ⟨hb0, y9, y11, y16, y18⟩ => ⟨hb0, y9.keep (by decide), y11.keep (by decide), y16.keep (by decide), y18.keep (by decide)⟩) hZ, hP11.keep (j := 13) (by decide), hP12.keep (j := 13) (by decide), On.new (rfl), hP14.keep (j := 13) (by decide), hP18.keep (j := 13) (by decide), hP19.keep (j := 13) (by decide), hP20.keep (j := 13) (by decide), by simp [hz]⟩
    · skip
      have HV := Lib.hid hv
      clear hv
      have e13 := hP13.get (by simp [hp])
      subst e13
      refine wpOp_go rfl rfl (fun K hK => ?_)
      go_simp
      refine hK _ _ ?_
      exact ⟨_, _, _, _, _, _, _, _, _, _, rfl, HV.out.other (by decide), (fun ⟨hb0, y9, y11, y16, y18⟩ => ⟨hb0, y9.keep (by decide), y11.keep (by decide), y16.keep (by decide), y18.keep (by decide)⟩) hZ, hP11.keep (j := 14) (by decide), hP12.keep (j := 14) (by decide), hP13.keep (j := 14) (by decide), On.new (rfl), hP18.keep (j := 14) (by decide), hP19.keep (j := 14) (by decide), hP20.keep (j := 14) (by decide), by simp [hz]⟩
    · skip
      have HV := Lib.hid hv
      clear hv
      have hY := hZ
      have e14 := hP14.get (by simp [hp])
      subst e14
      obtain ⟨z0, z1, z2, z3, z4⟩ := hcC
      have y0 := keepc hY.1 z0 lC; have y1 := keepc hY.1 z1 lC; have y2 := keepc hY.1 z2 lC; have y3 := keepc hY.1 z3 lC; have y4 := keepc hY.1 z4 lC
      refine wpOp_gg rfl rfl (fun K hK => ?_)
      go_simp
      refine hK _ _ ?_
      exact ⟨_, _, _, _, _, _, _, _, _, _, rfl, HV.out.new (x := .agg #[.bool (sn (na cx)), .slice C1 (ln (ab (na cx))) (ln (ab (na cx))), .bool (sn (nb cx)), .slice C2 (ln (ab (nb cx))) (ln (ab (nb cx))), .slice C3 (ln (un cx)) (ln (un cx))]) rfl, (fun ⟨hb0, y9, y11, y16, y18⟩ => ⟨hb0, y9.keep (by decide), y11.keep (by decide), y16.keep (by decide), y18.keep (by decide)⟩) hZ, hP11.keep (j := 15) (by decide), hP12.keep (j := 15) (by decide), hP13.keep (j := 15) (by decide), hP14.keep (j := 15) (by decide), hP18.keep (j := 15) (by decide), hP19.keep (j := 15) (by decide), hP20.keep (j := 15) (by decide), by simp [hz]⟩
    · skip
      have e15 : V 15 = .agg #[.bool (sn (na cx)), .slice C1 (ln (ab (na cx))) (ln (ab (na cx))), .bool (sn (nb cx)), .slice C2 (ln (ab (nb cx))) (ln (ab (nb cx))), .slice C3 (ln (un cx)) (ln (un cx))] := hv.get 15 (by decide) (by simp [hp])
      have HV := Lib.hid (hv.fixE e15 rfl)
      clear hv
      simp only [e15]
      have hY := hZ
      have e14 := hP14.get (by simp [hp])
      subst e14
      refine wpOp_gg rfl rfl (fun K hK => ?_)
      go_wp2_with (first | (go_at_call 12; refine (conj_any cx C1 C2 C3 _ (hnC.to hY.1)).mono ?_; rintro e wf ⟨F1, F2, F3, rfl, hNN, hb⟩))
      try refine hK _ _ ?_
      exact ⟨_, _, _, _, _, _, _, _, _, _, rfl, HV.out.other (by decide), ⟨hY.1.trans (hb.mono hY.1.size), ((hY.2.1).keep (by decide)).map (fun h => h.to hb), ((hY.2.2.1).keep (by decide)).map (fun h => h.to hb), On.new (⟨F1, F2, F3, rfl, hNN⟩), ((hY.2.2.2.2).keep (by decide)).map (fun h => h.to hb)⟩, hP11.keep (j := 16) (by decide), hP12.keep (j := 16) (by decide), hP13.keep (j := 16) (by decide), (hP14.map (fun _ => rfl)).keep (j := 16) (by decide), hP18.keep (j := 16) (by decide), hP19.keep (j := 16) (by decide), hP20.keep (j := 16) (by decide), by simp [hz]⟩
    · skip
      have HV := Lib.hid hv
      clear hv
      have hY := hZ
      have e14 := hP14.get (by simp [hp])
      subst e14
      obtain ⟨z0, z1, z2, z3, z4⟩ := hcJ
      have y0 := keepc hY.1 z0 lJ; have y1 := keepc hY.1 z1 lJ; have y2 := keepc hY.1 z2 lJ; have y3 := keepc hY.1 z3 lJ; have y4 := keepc hY.1 z4 lJ
      refine wpOp_gg rfl rfl (fun K hK => ?_)
      go_simp
      refine hK _ _ ?_
      exact ⟨_, _, _, _, _, _, _, _, _, _, rfl, HV.out.new (x := .agg #[.bool (sn (na jx)), .slice J1 (ln (ab (na jx))) (ln (ab (na jx))), .bool (sn (nb jx)), .slice J2 (ln (ab (nb jx))) (ln (ab (nb jx))), .slice J3 (ln (un jx)) (ln (un jx))]) rfl, (fun ⟨hb0, y9, y11, y16, y18⟩ => ⟨hb0, y9.keep (by decide), y11.keep (by decide), y16.keep (by decide), y18.keep (by decide)⟩) hZ, hP11.keep (j := 17) (by decide), hP12.keep (j := 17) (by decide), hP13.keep (j := 17) (by decide), hP14.keep (j := 17) (by decide), hP18.keep (j := 17) (by decide), hP19.keep (j := 17) (by decide), hP20.keep (j := 17) (by decide), by simp [hz]⟩
    · skip
      have e17 : V 17 = .agg #[.bool (sn (na jx)), .slice J1 (ln (ab (na jx))) (ln (ab (na jx))), .bool (sn (nb jx)), .slice J2 (ln (ab (nb jx))) (ln (ab (nb jx))), .slice J3 (ln (un jx)) (ln (un jx))] := hv.get 17 (by decide) (by simp [hp])
      have HV := Lib.hid (hv.fixE e17 rfl)
      clear hv
      simp only [e17]
      have hY := hZ
      have e14 := hP14.get (by simp [hp])
      subst e14
      obtain ⟨F1, F2, F3, e0, hNN⟩ := hY.2.2.2.1.get (by simp [hp])
      subst e0
      refine wpOp_gg rfl rfl (fun K hK => ?_)
      go_wp2_with (first | (go_at_call 11; refine (same_to cx.conj jx F1 F2 F3 J1 J2 J3 _ hNN (hnJ.to hY.1) ((sz_conj HZ.out.1).mono (by decide)) (HZ.out.2.2.2.mono (by decide)) HL2.out).mono ?_; rintro e wf ⟨rfl, hb⟩))
      try refine hK _ _ ?_
      exact ⟨_, _, _, _, _, _, _, _, _, _, rfl, HV.out.other (by decide), ⟨hY.1.trans (hb.mono hY.1.size), ((hY.2.1).keep (by decide)).map (fun h => h.to hb), ((hY.2.2.1).keep (by decide)).map (fun h => h.to hb), ((hY.2.2.2.1).keep (by decide)).map (fun h => h.to hb), On.new (rfl)⟩, hP11.keep (j := 18) (by decide), hP12.keep (j := 18) (by decide), hP13.keep (j := 18) (by decide), (hP14.map (fun _ => rfl)).keep (j := 18) (by decide), On.new (rfl), hP19.keep (j := 18) (by decide), hP20.keep (j := 18) (by decide), by simp [hz]⟩
    · skip
      have HV := Lib.hid hv
      clear hv
      have e14 := hP14.get (by simp [hp])
      subst e14
      have e18 := hP18.get (by simp [hp])
      subst e18
      refine wpOp_gg rfl rfl (fun K hK => ?_)
      go_simp
      refine hK _ _ ?_
      exact ⟨_, _, _, _, _, _, _, _, _, _, rfl, HV.out.other (by decide), (fun ⟨hb0, y9, y11, y16, y18⟩ => ⟨hb0, y9.keep (by decide), y11.keep (by decide), y16.keep (by decide), y18.keep (by decide)⟩) hZ, hP11.keep (j := 19) (by decide), hP12.keep (j := 19) (by decide), hP13.keep (j := 19) (by decide), hP14.keep (j := 19) (by decide), hP18.keep (j := 19) (by decide), On.new (rfl), hP20.keep (j := 19) (by decide), by simp [hz]⟩
    · skip
      have HV := Lib.hid hv
      clear hv
      have e14 := hP14.get (by simp [hp])
      subst e14
      have e19 := hP19.get (by simp [hp])
      subst e19
      refine wpOp_go rfl rfl (fun K hK => ?_)
      go_simp
      refine hK _ _ ?_
      exact ⟨_, _, _, _, _, _, _, _, _, _, rfl, HV.out.other (by decide), (fun ⟨hb0, y9, y11, y16, y18⟩ => ⟨hb0, y9.keep (by decide), y11.keep (by decide), y16.keep (by decide), y18.keep (by decide)⟩) hZ, hP11.keep (j := 20) (by decide), hP12.keep (j := 20) (by decide), hP13.keep (j := 20) (by decide), hP14.keep (j := 20) (by decide), hP18.keep (j := 20) (by decide), hP19.keep (j := 20) (by decide), On.new (rfl), by simp [hz]⟩
  · intro l a' W' hr hI
    obtain ⟨V, xa9, xa11, xa12, xa13, xa14, xa16, xa18, xa19, xa20, rfl, hv, hZ, hP11, hP12, hP13, hP14, hP18, hP19, hP20, hz⟩ := hI
    have a0 := not_ready (i := 0) hr hz rfl (by simp [Region.binds])
    have a1 := not_ready (i := 1) hr hz rfl (by simp [Region.binds, a0])
    have a2 := not_ready (i := 2) hr hz rfl (by simp [Region.binds, a0, a1])
    have a3 := not_ready (i := 3) hr hz rfl (by simp [Region.binds, a0, a1, a2])
    have a4 := not_ready (i := 4) hr hz rfl (by simp [Region.binds, a0, a1, a2, a3])
    have a5 := not_ready (i := 5) hr hz rfl (by simp [Region.binds, a0, a1, a2, a3, a4])
    have a6 := not_ready (i := 6) hr hz rfl (by simp [Region.binds, a0, a1, a2, a3, a4, a5])
    have a7 := not_ready (i := 7) hr hz rfl (by simp [Region.binds, a0, a1, a2, a3, a4, a5, a6])
    have a8 := not_ready (i := 8) hr hz rfl (by simp [Region.binds, a0, a1, a2, a3, a4, a5, a6, a7])
    have a9 := not_ready (i := 9) hr hz rfl (by simp [Region.binds, a0, a1, a2, a3, a4, a5, a6, a7, a8])
    have a10 := not_ready (i := 10) hr hz rfl (by simp [Region.binds, a0, a1, a2, a3, a4, a5, a6, a7, a8, a9])
    have a11 := not_ready (i := 11) hr hz rfl (by simp [Region.binds, a0, a1, a2, a3, a4, a5, a6, a7, a8, a9, a10])
    have a12 := not_ready (i := 12) hr hz rfl (by simp [Region.binds, a0, a1, a2, a3, a4, a5, a6, a7, a8, a9, a10, a11])
    have a13 := not_ready (i := 13) hr hz rfl (by simp [Region.binds, a0, a1, a2, a3, a4, a5, a6, a7, a8, a9, a10, a11, a12])
    have a14 := not_ready (i := 14) hr hz rfl (by simp [Region.binds, a0, a1, a2, a3, a4, a5, a6, a7, a8, a9, a10, a11, a12, a13])
    have a15 := not_ready (i := 15) hr hz rfl (by simp [Region.binds, a0, a1, a2, a3, a4, a5, a6, a7, a8, a9, a10, a11, a12, a13, a14])
    have a16 := not_ready (i := 16) hr hz rfl (by simp [Region.binds, a0, a1, a2, a3, a4, a5, a6, a7, a8, a9, a10, a11, a12, a13, a14, a15])
    have a17 := not_ready (i := 17) hr hz rfl (by simp [Region.binds, a0, a1, a2, a3, a4, a5, a6, a7, a8, a9, a10, a11, a12, a13, a14, a15, a16])
    have a18 := not_ready (i := 18) hr hz rfl (by simp [Region.binds, a0, a1, a2, a3, a4, a5, a6, a7, a8, a9, a10, a11, a12, a13, a14, a15, a16, a17])
    have a19 := not_ready (i := 19) hr hz rfl (by simp [Region.binds, a0, a1, a2, a3, a4, a5, a6, a7, a8, a9, a10, a11, a12, a13, a14, a15, a16, a17, a18])
    have a20 := not_ready (i := 20) hr hz rfl (by simp [Region.binds, a0, a1, a2, a3, a4, a5, a6, a7, a8, a9, a10, a11, a12, a13, a14, a15, a16, a17, a18, a19])
    have hY : Below v8.heap.size v8 W' ∧ (SlotNum W' xa9 (cx.mul dx)) ∧ (SlotB W' xa11 true) ∧ (SlotNum W' xa16 (cx.conj)) ∧ (SlotB W' xa18 true) := ⟨hZ.1, hZ.2.1.get a9, hZ.2.2.1.get a11, hZ.2.2.2.1.get a16, hZ.2.2.2.2.get a18⟩
    have hQ20 := hP20.get a20
    clear hr hz hv hZ a0 a1 a2 a3 a4 a5 a6 a7 a8 a9 a10 a11 a12 a13 a14 a15 a16 a17 a18 a19 a20 hP11 hP12 hP13 hP14 hP18 hP19 hP20
    obtain ⟨hbR, _⟩ := hY
    replace HC := Lib.hid (HC.out.to hbR)
    replace HP1 := Lib.hid (keepc hbR HP1.out al)
    replace HP2 := Lib.hid (keepc hbR HP2.out al)
    replace al := Nat.lt_of_lt_of_le al hbR.size
    replace HB := Lib.hid (HB.out.trans (hbR.mono HB.out.size))
    rw [hQ20]
    clear hcC hnC hcE hnE hcG hnG hcJ hnJ lC lE lG lJ hmx HE HG HJ HL1 HL2 hbR
    by_cases hn2 : n < 2
    · have t1 : decide ((n : Int) < 2) = true := by rw [decide_eq_true_eq]; omega
      clear hn2
      go_wp2_with fail
      refine (awake_any _).mono ?_
      rintro e w9 ⟨rfl, hb⟩
      go_wp2_with fail
      go_ret
      exact ⟨rfl, HB.out.trans (hb.mono HB.out.size)⟩
    · have t1 : decide ((n : Int) < 2) = false := by rw [decide_eq_false_iff_not]; omega
      obtain ⟨r, hr⟩ : ∃ r, r = p1 % n := ⟨_, rfl⟩
      obtain ⟨s, hs⟩ : ∃ s, s = p2 % n := ⟨_, rfl⟩
      have q1 : (p1 : Int).tmod (n : Int) = (r : Int) := by rw [hr]; rfl
      have q2 : (p2 : Int).tmod (n : Int) = (s : Int) := by rw [hs]; rfl
      have hrn : r < n := by rw [hr]; exact Nat.mod_lt _ (by omega)
      have hsn : s < n := by rw [hs]; exact Nat.mod_lt _ (by omega)
      have hn0 : ¬ n = 0 := by omega
      have a1 := HP1.out
      have a2 := HP2.out
      have q3 := wrapi_nat (a := p1) (by have := HP.out.1; omega)
      have q4 := wrapi_nat (a := p2) (by have := HP.out.2; omega)
      clear hn2 hr hs
      go_upto_region 15 with fail
      refine wp_region_any (by kernel_rfl) ?_
      refine wpAny_inv (fun l a' w' => ∃ V2 : Nat → Value, a' = ⟨List.toArray (.slice A k c :: .slice B lb d :: .agg #[.int .u8 ↑p0, .int .u8 ↑p1, .int .u8 ↑p2] :: undef :: undef :: .pointer (some ⟨gP, 0, none⟩) :: .bool false :: .int .i64 ↑n :: .slice (some ⟨gx1, 0, none⟩) n n :: .slice (some ⟨gy1, 0, none⟩) n n :: .slice P n cP :: .int .i64 0 :: .slice Q n cQ :: .int .i64 0 :: .pointer (some ⟨g14, 0, none⟩) :: .pointer (some ⟨g15, 0, none⟩) :: .pointer (some ⟨g16, 0, none⟩) :: .int .i64 0 :: .pointer (some ⟨g18, 0, none⟩) :: .int .i64 0 :: V2 10 :: V2 11 :: undef :: undef :: .pointer (some ⟨gP, 0, none⟩) :: .int .u8 ↑p0 :: .int .i64 ↑p0 :: .int .i64 ↑n :: .slice A k c :: .int .i64 ↑n :: .slice (some ⟨gx1, 0, none⟩) n n :: .slice B lb d :: .int .i64 ↑n :: .slice (some ⟨gy1, 0, none⟩) n n :: .tuple #[.slice P n cP, .int .i64 0] :: .slice (some ⟨gx1, 0, none⟩) n n :: .slice (some ⟨gy1, 0, none⟩) n n :: .tuple #[.slice P n cP, .int .i64 0] :: .slice P n cP :: .int .i64 0 :: .tuple #[.slice Q n cQ, .int .i64 0] :: .slice (some ⟨gx1, 0, none⟩) n n :: .tuple #[.slice Q n cQ, .int .i64 0] :: .slice Q n cQ :: .int .i64 0 :: .int .i64 0 :: .bool false :: .bool false :: .int .i64 0 :: .bool false :: .bool false :: .tuple #[.agg #[.bool (sn (na cx)), .slice C11 (ln (ab (na cx))) (ln (ab (na cx))), .bool (sn (nb cx)), .slice C12 (ln (ab (nb cx))) (ln (ab (nb cx))), .slice C13 (ln (un cx)) (ln (un cx))], .int .i64 0] :: .slice (some ⟨gx1, 0, none⟩) n n :: .tuple #[.agg #[.bool (sn (na cx)), .slice C11 (ln (ab (na cx))) (ln (ab (na cx))), .bool (sn (nb cx)), .slice C12 (ln (ab (nb cx))) (ln (ab (nb cx))), .slice C13 (ln (un cx)) (ln (un cx))], .int .i64 0] :: .agg #[.bool (sn (na cx)), .slice C11 (ln (ab (na cx))) (ln (ab (na cx))), .bool (sn (nb cx)), .slice C12 (ln (ab (nb cx))) (ln (ab (nb cx))), .slice C13 (ln (un cx)) (ln (un cx))] :: .int .i64 0 :: .tuple #[.agg #[.bool (sn (na dx)), .slice E11 (ln (ab (na dx))) (ln (ab (na dx))), .bool (sn (nb dx)), .slice E12 (ln (ab (nb dx))) (ln (ab (nb dx))), .slice E13 (ln (un dx)) (ln (un dx))], .int .i64 0] :: .slice (some ⟨gy1, 0, none⟩) n n :: .tuple #[.agg #[.bool (sn (na dx)), .slice E11 (ln (ab (na dx))) (ln (ab (na dx))), .bool (sn (nb dx)), .slice E12 (ln (ab (nb dx))) (ln (ab (nb dx))), .slice E13 (ln (un dx)) (ln (un dx))], .int .i64 0] :: .agg #[.bool (sn (na dx)), .slice E11 (ln (ab (na dx))) (ln (ab (na dx))), .bool (sn (nb dx)), .slice E12 (ln (ab (nb dx))) (ln (ab (nb dx))), .slice E13 (ln (un dx)) (ln (un dx))] :: .int .i64 0 :: .tuple #[.agg #[.bool (sn (na gx)), .slice G11 (ln (ab (na gx))) (ln (ab (na gx))), .bool (sn (nb gx)), .slice G12 (ln (ab (nb gx))) (ln (ab (nb gx))), .slice G13 (ln (un gx)) (ln (un gx))], .int .i64 0] :: .slice P n cP :: .tuple #[.agg #[.bool (sn (na gx)), .slice G11 (ln (ab (na gx))) (ln (ab (na gx))), .bool (sn (nb gx)), .slice G12 (ln (ab (nb gx))) (ln (ab (nb gx))), .slice G13 (ln (un gx)) (ln (un gx))], .int .i64 0] :: .agg #[.bool (sn (na gx)), .slice G11 (ln (ab (na gx))) (ln (ab (na gx))), .bool (sn (nb gx)), .slice G12 (ln (ab (nb gx))) (ln (ab (nb gx))), .slice G13 (ln (un gx)) (ln (un gx))] :: .int .i64 0 :: .tuple #[.agg #[.bool (sn (na jx)), .slice J11 (ln (ab (na jx))) (ln (ab (na jx))), .bool (sn (nb jx)), .slice J12 (ln (ab (nb jx))) (ln (ab (nb jx))), .slice J13 (ln (un jx)) (ln (un jx))], .int .i64 0] :: .slice Q n cQ :: .tuple #[.agg #[.bool (sn (na jx)), .slice J11 (ln (ab (na jx))) (ln (ab (na jx))), .bool (sn (nb jx)), .slice J12 (ln (ab (nb jx))) (ln (ab (nb jx))), .slice J13 (ln (un jx)) (ln (un jx))], .int .i64 0] :: .agg #[.bool (sn (na jx)), .slice J11 (ln (ab (na jx))) (ln (ab (na jx))), .bool (sn (nb jx)), .slice J12 (ln (ab (nb jx))) (ln (ab (nb jx))), .slice J13 (ln (un jx)) (ln (un jx))] :: .int .i64 0 :: V 0 :: V 1 :: V 2 :: V 3 :: V 4 :: V 5 :: V 6 :: V 7 :: V 8 :: xa9 :: V 10 :: xa11 :: xa12 :: xa13 :: xa14 :: V 15 :: xa16 :: V 17 :: xa18 :: xa19 :: .bool false :: .int .i64 ↑n :: .bool false :: undef :: V2 0 :: V2 1 :: V2 2 :: V2 3 :: V2 4 :: V2 5 :: V2 6 :: V2 7 :: V2 8 :: V2 9 :: undef :: undef :: undef :: undef :: undef :: undef :: undef :: undef :: undef :: undef :: undef :: undef :: undef :: undef :: undef :: undef :: undef :: undef :: undef :: undef :: undef :: undef :: undef :: undef :: undef :: undef :: undef :: undef :: undef :: undef :: undef :: undef :: undef :: undef :: undef :: undef :: undef :: []), []⟩ ∧ OnFix l V2 (fun zz => List.getD [.pointer (some ⟨gP, 1, none⟩), .int .u8 p1, .int .i64 p1, .int .i64 n, .int .i64 r, .pointer (some ⟨gP, 2, none⟩), .int .u8 p2, .int .i64 p2, .int .i64 n, .int .i64 s, .int .i64 r, .int .i64 s] zz undef) [0, 1, 2, 3, 4, 5, 6, 7, 8, 9, 10, 11] ∧ (Below W'.heap.size W' w') ∧ l.size = 12) ?_ ?_ _ _ _ _ (by decide) ?_
      · intro l a' W' i hi hI
        obtain ⟨V2, rfl, hv, hZ, hz⟩ := hI
        obtain ⟨hlt, hoff, hpre⟩ := ready_pre hi
        have hc : i ∈ [0, 1, 2, 3, 4, 5, 6, 7, 8, 9, 10, 11] := (by decide : ∀ i, i < 12 → i ∈ [0, 1, 2, 3, 4, 5, 6, 7, 8, 9, 10, 11]) i hlt
        simp only [List.mem_cons, List.not_mem_nil, or_false] at hc
        clear hi hlt
        rcases hc with rfl | rfl | rfl | rfl | rfl | rfl | rfl | rfl | rfl | rfl | rfl | rfl <;> (have hp := hpre _ rfl; simp [Region.binds] at hp; clear hpre)
        · skip
          have HV := Lib.hid hv
          clear hv
          refine wpOp_go rfl rfl (fun K hK => ?_)
          go_simp
          refine hK _ _ ?_
          exact ⟨_, rfl, HV.out.new (x := .pointer (some ⟨gP, 1, none⟩)) rfl, hZ, by simp [hz]⟩
        · skip
          have e0 : V2 0 = .pointer (some ⟨gP, 1, none⟩) := hv.get 0 (by decide) (by simp [hp])
          have HV := Lib.hid (hv.fixE e0 rfl)
          clear hv
          simp only [e0]
          have hY := hZ
          have z := keepc hY a1 al
          refine wpOp_go rfl rfl (fun K hK => ?_)
          go_simp
          refine hK _ _ ?_
          exact ⟨_, rfl, HV.out.new (x := .int .u8 p1) rfl, hZ, by simp [hz]⟩
        · skip
          have e1 : V2 1 = .int .u8 p1 := hv.get 1 (by decide) (by simp [hp])
          have HV := Lib.hid (hv.fixE e1 rfl)
          clear hv
          simp only [e1]
          refine wpOp_go rfl rfl (fun K hK => ?_)
          go_simp
          refine hK _ _ ?_
          exact ⟨_, rfl, HV.out.new (x := .int .i64 p1) rfl, hZ, by simp [hz]⟩
        · skip
          have HV := Lib.hid hv
          clear hv
          refine wpOp_go rfl rfl (fun K hK => ?_)
          go_simp
          refine hK _ _ ?_
          exact ⟨_, rfl, HV.out.new (x := .int .i64 n) rfl, hZ, by simp [hz]⟩
        · skip
          have e2 : V2 2 = .int .i64 p1 := hv.get 2 (by decide) (by simp [hp])
          have e3 : V2 3 = .int .i64 n := hv.get 3 (by decide) (by simp [hp])
          have HV := Lib.hid ((hv.fixE e2 rfl).fixE e3 rfl)
          clear hv
          simp only [e2, e3]
          refine wpOp_go rfl rfl (fun K hK => ?_)
          go_simp
          refine hK _ _ ?_
          exact ⟨_, rfl, HV.out.new (x := .int .i64 r) rfl, hZ, by simp [hz]⟩
        · skip
          have HV := Lib.hid hv
          clear hv
          refine wpOp_go rfl rfl (fun K hK => ?_)
          go_simp
          refine hK _ _ ?_
          exact ⟨_, rfl, HV.out.new (x := .pointer (some ⟨gP, 2, none⟩)) rfl, hZ, by simp [hz]⟩
        · skip
          have e5 : V2 5 = .pointer (some ⟨gP, 2, none⟩) := hv.get 5 (by decide) (by simp [hp])
          have HV := Lib.hid (hv.fixE e5 rfl)
          clear hv
          simp only [e5]
          have hY := hZ
          have z := keepc hY a2 al
          refine wpOp_go rfl rfl (fun K hK => ?_)
          go_simp
          refine hK _ _ ?_
          exact ⟨_, rfl, HV.out.new (x := .int .u8 p2) rfl, hZ, by simp [hz]⟩
        · skip
          have e6 : V2 6 = .int .u8 p2 := hv.get 6 (by decide) (by simp [hp])
          have HV := Lib.hid (hv.fixE e6 rfl)
          clear hv
          simp only [e6]
          refine wpOp_go rfl rfl (fun K hK => ?_)
          go_simp
          refine hK _ _ ?_
          exact ⟨_, rfl, HV.out.new (x := .int .i64 p2) rfl, hZ, by simp [hz]⟩
        · skip
          have HV := Lib.hid hv
          clear hv
          refine wpOp_go rfl rfl (fun K hK => ?_)
          go_simp
          refine hK _ _ ?_
          exact ⟨_, rfl, HV.out.new (x := .int .i64 n) rfl, hZ, by simp [hz]⟩
        · skip
          have e7 : V2 7 = .int .i64 p2 := hv.get 7 (by decide) (by simp [hp])
          have e8 : V2 8 = .int .i64 n := hv.get 8 (by decide) (by simp [hp])
          have HV := Lib.hid ((hv.fixE e7 rfl).fixE e8 rfl)
          clear hv
          simp only [e7, e8]
          refine wpOp_go rfl rfl (fun K hK => ?_)
          go_simp
          refine hK _ _ ?_
          exact ⟨_, rfl, HV.out.new (x := .int .i64 s) rfl, hZ, by simp [hz]⟩
        · skip
          have e4 : V2 4 = .int .i64 r := hv.get 4 (by decide) (by simp [hp])
          have HV := Lib.hid (hv.fixE e4 rfl)
          clear hv
          simp only [e4]
          refine wpOp_go rfl rfl (fun K hK => ?_)
          go_simp
          refine hK _ _ ?_
          exact ⟨_, rfl, HV.out.new (x := .int .i64 r) rfl, hZ, by simp [hz]⟩
        · skip
          have e9 : V2 9 = .int .i64 s := hv.get 9 (by decide) (by simp [hp])
          have HV := Lib.hid (hv.fixE e9 rfl)
          clear hv
          simp only [e9]
          refine wpOp_go rfl rfl (fun K hK => ?_)
          go_simp
          refine hK _ _ ?_
          exact ⟨_, rfl, HV.out.new (x := .int .i64 s) rfl, hZ, by simp [hz]⟩
      · intro l a' W' hr hI
        obtain ⟨V2, rfl, hv, hZ, hz⟩ := hI
        have a0 := not_ready (i := 0) hr hz rfl (by simp [Region.binds])
        have a1 := not_ready (i := 1) hr hz rfl (by simp [Region.binds, a0])
        have a2 := not_ready (i := 2) hr hz rfl (by simp [Region.binds, a0, a1])
        have a3 := not_ready (i := 3) hr hz rfl (by simp [Region.binds, a0, a1, a2])
        have a4 := not_ready (i := 4) hr hz rfl (by simp [Region.binds, a0, a1, a2, a3])
        have a5 := not_ready (i := 5) hr hz rfl (by simp [Region.binds, a0, a1, a2, a3, a4])
        have a6 := not_ready (i := 6) hr hz rfl (by simp [Region.binds, a0, a1, a2, a3, a4, a5])
        have a7 := not_ready (i := 7) hr hz rfl (by simp [Region.binds, a0, a1, a2, a3, a4, a5, a6])
        have a8 := not_ready (i := 8) hr hz rfl (by simp [Region.binds, a0, a1, a2, a3, a4, a5, a6, a7])
        have a9 := not_ready (i := 9) hr hz rfl (by simp [Region.binds, a0, a1, a2, a3, a4, a5, a6, a7, a8])
        have a10 := not_ready (i := 10) hr hz rfl (by simp [Region.binds, a0, a1, a2, a3, a4, a5, a6, a7, a8, a9])
        have a11 := not_ready (i := 11) hr hz rfl (by simp [Region.binds, a0, a1, a2, a3, a4, a5, a6, a7, a8, a9, a10])
        have hY := hZ
        have hF10 := hv.get 10 (by decide) a10
        have hF11 := hv.get 11 (by decide) a11
        clear hr hz hv hZ a0 a1 a2 a3 a4 a5 a6 a7 a8 a9 a10 a11 
        rw [hF10, hF11]
        replace HC := Lib.hid (HC.out.to hY)
        replace HB := Lib.hid (HB.out.trans (hY.mono HB.out.size))
        clear hF10 hF11 a1 a2 q1 q2 q3 q4 HP1 HP2 al hn0 hY
        by_cases hrs : r = s
        · have t2 : ((r : Int) == (s : Int)) = true := by rw [beq_iff_eq]; omega
          clear hrs
          go_wp2_with fail
          refine (awake_any _).mono ?_
          rintro e w9 ⟨rfl, hb⟩
          go_wp2_with fail
          go_ret
          exact ⟨rfl, HB.out.trans (hb.mono HB.out.size)⟩
        · have t2 : ((r : Int) == (s : Int)) = false := by rw [beq_eq_false_iff_ne]; omega
          have HRS := Lib.hid hrs
          clear hrs
          go_wp2_with fail
          refine (HSA.out _ HB.out).mono ?_
          rintro e w9 ⟨gz, rfl, hz⟩
          have hlO := hz.lt
          obtain ⟨gp, kp, gc2, kc2, hp1', hc1', hsw⟩ := hz.swap hrn hsn HRS.out
          have HBX := Lib.hid (And.intro HB.out HC.out)
          obtain ⟨wb, hwb⟩ : ∃ x : World, x = W' := ⟨_, rfl⟩
          rw [← hwb] at hsw HBX
          have i1 : (0 : Int) ≤ (r : Int) := by omega
          have i2 : (r : Int) < (n : Int) := by omega
          have i3 : (0 : Int) ≤ (s : Int) := by omega
          have i4 : (s : Int) < (n : Int) := by omega
          clear hz hwb HB HC
          go_upto_region 19 with fail
          refine wp_region_any (by kernel_rfl) ?_
          refine wpAny_inv (fun l a' w' => ∃ V3 : Nat → Value, a' = ⟨List.toArray (.slice A k c :: .slice B lb d :: .agg #[.int .u8 ↑p0, .int .u8 ↑p1, .int .u8 ↑p2] :: undef :: undef :: .pointer (some ⟨gP, 0, none⟩) :: .bool false :: .int .i64 ↑n :: .slice (some ⟨gx1, 0, none⟩) n n :: .slice (some ⟨gy1, 0, none⟩) n n :: .slice P n cP :: .int .i64 0 :: .slice Q n cQ :: .int .i64 0 :: .pointer (some ⟨g14, 0, none⟩) :: .pointer (some ⟨g15, 0, none⟩) :: .pointer (some ⟨g16, 0, none⟩) :: .int .i64 0 :: .pointer (some ⟨g18, 0, none⟩) :: .int .i64 0 :: .int .i64 ↑r :: .int .i64 ↑s :: .slice (some ⟨gz, 0, none⟩) n n :: undef :: .pointer (some ⟨gP, 0, none⟩) :: .int .u8 ↑p0 :: .int .i64 ↑p0 :: .int .i64 ↑n :: .slice A k c :: .int .i64 ↑n :: .slice (some ⟨gx1, 0, none⟩) n n :: .slice B lb d :: .int .i64 ↑n :: .slice (some ⟨gy1, 0, none⟩) n n :: .tuple #[.slice P n cP, .int .i64 0] :: .slice (some ⟨gx1, 0, none⟩) n n :: .slice (some ⟨gy1, 0, none⟩) n n :: .tuple #[.slice P n cP, .int .i64 0] :: .slice P n cP :: .int .i64 0 :: .tuple #[.slice Q n cQ, .int .i64 0] :: .slice (some ⟨gx1, 0, none⟩) n n :: .tuple #[.slice Q n cQ, .int .i64 0] :: .slice Q n cQ :: .int .i64 0 :: .int .i64 0 :: .bool false :: .bool false :: .int .i64 0 :: .bool false :: .bool false :: .tuple #[.agg #[.bool (sn (na cx)), .slice C11 (ln (ab (na cx))) (ln (ab (na cx))), .bool (sn (nb cx)), .slice C12 (ln (ab (nb cx))) (ln (ab (nb cx))), .slice C13 (ln (un cx)) (ln (un cx))], .int .i64 0] :: .slice (some ⟨gx1, 0, none⟩) n n :: .tuple #[.agg #[.bool (sn (na cx)), .slice C11 (ln (ab (na cx))) (ln (ab (na cx))), .bool (sn (nb cx)), .slice C12 (ln (ab (nb cx))) (ln (ab (nb cx))), .slice C13 (ln (un cx)) (ln (un cx))], .int .i64 0] :: .agg #[.bool (sn (na cx)), .slice C11 (ln (ab (na cx))) (ln (ab (na cx))), .bool (sn (nb cx)), .slice C12 (ln (ab (nb cx))) (ln (ab (nb cx))), .slice C13 (ln (un cx)) (ln (un cx))] :: .int .i64 0 :: .tuple #[.agg #[.bool (sn (na dx)), .slice E11 (ln (ab (na dx))) (ln (ab (na dx))), .bool (sn (nb dx)), .slice E12 (ln (ab (nb dx))) (ln (ab (nb dx))), .slice E13 (ln (un dx)) (ln (un dx))], .int .i64 0] :: .slice (some ⟨gy1, 0, none⟩) n n :: .tuple #[.agg #[.bool (sn (na dx)), .slice E11 (ln (ab (na dx))) (ln (ab (na dx))), .bool (sn (nb dx)), .slice E12 (ln (ab (nb dx))) (ln (ab (nb dx))), .slice E13 (ln (un dx)) (ln (un dx))], .int .i64 0] :: .agg #[.bool (sn (na dx)), .slice E11 (ln (ab (na dx))) (ln (ab (na dx))), .bool (sn (nb dx)), .slice E12 (ln (ab (nb dx))) (ln (ab (nb dx))), .slice E13 (ln (un dx)) (ln (un dx))] :: .int .i64 0 :: .tuple #[.agg #[.bool (sn (na gx)), .slice G11 (ln (ab (na gx))) (ln (ab (na gx))), .bool (sn (nb gx)), .slice G12 (ln (ab (nb gx))) (ln (ab (nb gx))), .slice G13 (ln (un gx)) (ln (un gx))], .int .i64 0] :: .slice P n cP :: .tuple #[.agg #[.bool (sn (na gx)), .slice G11 (ln (ab (na gx))) (ln (ab (na gx))), .bool (sn (nb gx)), .slice G12 (ln (ab (nb gx))) (ln (ab (nb gx))), .slice G13 (ln (un gx)) (ln (un gx))], .int .i64 0] :: .agg #[.bool (sn (na gx)), .slice G11 (ln (ab (na gx))) (ln (ab (na gx))), .bool (sn (nb gx)), .slice G12 (ln (ab (nb gx))) (ln (ab (nb gx))), .slice G13 (ln (un gx)) (ln (un gx))] :: .int .i64 0 :: .tuple #[.agg #[.bool (sn (na jx)), .slice J11 (ln (ab (na jx))) (ln (ab (na jx))), .bool (sn (nb jx)), .slice J12 (ln (ab (nb jx))) (ln (ab (nb jx))), .slice J13 (ln (un jx)) (ln (un jx))], .int .i64 0] :: .slice Q n cQ :: .tuple #[.agg #[.bool (sn (na jx)), .slice J11 (ln (ab (na jx))) (ln (ab (na jx))), .bool (sn (nb jx)), .slice J12 (ln (ab (nb jx))) (ln (ab (nb jx))), .slice J13 (ln (un jx)) (ln (un jx))], .int .i64 0] :: .agg #[.bool (sn (na jx)), .slice J11 (ln (ab (na jx))) (ln (ab (na jx))), .bool (sn (nb jx)), .slice J12 (ln (ab (nb jx))) (ln (ab (nb jx))), .slice J13 (ln (un jx)) (ln (un jx))] :: .int .i64 0 :: V 0 :: V 1 :: V 2 :: V 3 :: V 4 :: V 5 :: V 6 :: V 7 :: V 8 :: xa9 :: V 10 :: xa11 :: xa12 :: xa13 :: xa14 :: V 15 :: xa16 :: V 17 :: xa18 :: xa19 :: .bool false :: .int .i64 ↑n :: .bool false :: undef :: V2 0 :: V2 1 :: V2 2 :: V2 3 :: V2 4 :: V2 5 :: V2 6 :: V2 7 :: V2 8 :: V2 9 :: .int .i64 ↑r :: .int .i64 ↑s :: .bool false :: undef :: .slice A k c :: .int .i64 ↑n :: .slice (some ⟨gz, 0, none⟩) n n :: V3 0 :: V3 1 :: V3 2 :: V3 3 :: V3 4 :: V3 5 :: V3 6 :: V3 7 :: V3 8 :: V3 9 :: V3 10 :: V3 11 :: V3 12 :: V3 14 :: undef :: undef :: undef :: undef :: undef :: undef :: undef :: undef :: undef :: undef :: undef :: undef :: undef :: undef :: undef :: undef :: []), []⟩ ∧ OnFix l V3 (fun zz => List.getD [.slice (some ⟨gz, 0, none⟩) n n, .int .i64 r, .slice (some ⟨gz, 0, none⟩) n n, .int .i64 s, .slice (some ⟨gz, 0, none⟩) n n, .int .i64 s, .pointer (some ⟨gz, s, none⟩), .slice (some ⟨gc2, 0, none⟩) n kc2, .slice (some ⟨gz, 0, none⟩) n n, .int .i64 r, .pointer (some ⟨gz, r, none⟩), .slice (some ⟨gp, 0, none⟩) n kp, .pointer (some ⟨gz, r, none⟩), undef, .pointer (some ⟨gz, s, none⟩), undef] zz undef) [0, 1, 2, 3, 4, 5, 6, 7, 8, 9, 10, 11, 12, 14] ∧ Off l 13 (Below w9.heap.size w9 w') ∧ On l 13 (Off l 15 (SwpM wb w9.heap.size gz n n s gp kp (swp r s sa) w')) ∧ On l 15 (WkP wb w9.heap.size gz n n (swp r s sa) w') ∧ Edg l [(13, 7), (13, 11), (15, 13)] ∧ l.size = 16) ?_ ?_ _ _ _ _ (by decide) ?_
          · intro l a' W' i hi hI
            obtain ⟨V3, rfl, hv, hZ, hM0, hM1, hE, hz⟩ := hI
            obtain ⟨hlt, hoff, hpre⟩ := ready_pre hi
            have hc : i ∈ [0, 1, 2, 3, 4, 5, 6, 7, 8, 9, 10, 11, 12, 13, 14, 15] := (by decide : ∀ i, i < 16 → i ∈ [0, 1, 2, 3, 4, 5, 6, 7, 8, 9, 10, 11, 12, 13, 14, 15]) i hlt
            simp only [List.mem_cons, List.not_mem_nil, or_false] at hc
            clear hi hlt
            rcases hc with rfl | rfl | rfl | rfl | rfl | rfl | rfl | rfl | rfl | rfl | rfl | rfl | rfl | rfl | rfl | rfl <;> (have hp := hpre _ rfl; simp [Region.binds] at hp; clear hpre)
            · skip
              have HV := Lib.hid hv
              clear hv
              refine wpOp_go rfl rfl (fun K hK => ?_)
              go_simp
              refine hK _ _ ?_
              exact ⟨_, rfl, HV.out.new (x := .slice (some ⟨gz, 0, none⟩) n n) rfl, hZ.keep, (hM0.keep (by decide)).map Off.keep, hM1.keep (by decide), hE.mono (by decide), by simp [hz]⟩
            · skip
              have HV := Lib.hid hv
              clear hv
              refine wpOp_go rfl rfl (fun K hK => ?_)
              go_simp
              refine hK _ _ ?_
              exact ⟨_, rfl, HV.out.new (x := .int .i64 r) rfl, hZ.keep, (hM0.keep (by decide)).map Off.keep, hM1.keep (by decide), hE.mono (by decide), by simp [hz]⟩
            · skip
              have HV := Lib.hid hv
              clear hv
              refine wpOp_go rfl rfl (fun K hK => ?_)
              go_simp
              refine hK _ _ ?_
              exact ⟨_, rfl, HV.out.new (x := .slice (some ⟨gz, 0, none⟩) n n) rfl, hZ.keep, (hM0.keep (by decide)).map Off.keep, hM1.keep (by decide), hE.mono (by decide), by simp [hz]⟩
            · skip
              have HV := Lib.hid hv
              clear hv
              refine wpOp_go rfl rfl (fun K hK => ?_)
              go_simp
              refine hK _ _ ?_
              exact ⟨_, rfl, HV.out.new (x := .int .i64 s) rfl, hZ.keep, (hM0.keep (by decide)).map Off.keep, hM1.keep (by decide), hE.mono (by decide), by simp [hz]⟩
            · skip
              have HV := Lib.hid hv
              clear hv
              refine wpOp_go rfl rfl (fun K hK => ?_)
              go_simp
              refine hK _ _ ?_
              exact ⟨_, rfl, HV.out.new (x := .slice (some ⟨gz, 0, none⟩) n n) rfl, hZ.keep, (hM0.keep (by decide)).map Off.keep, hM1.keep (by decide), hE.mono (by decide), by simp [hz]⟩
            · skip
              have HV := Lib.hid hv
              clear hv
              refine wpOp_go rfl rfl (fun K hK => ?_)
              go_simp
              refine hK _ _ ?_
              exact ⟨_, rfl, HV.out.new (x := .int .i64 s) rfl, hZ.keep, (hM0.keep (by decide)).map Off.keep, hM1.keep (by decide), hE.mono (by decide), by simp [hz]⟩
            · skip
              have e4 : V3 4 = .slice (some ⟨gz, 0, none⟩) n n := hv.get 4 (by decide) (by simp [hp])
              have e5 : V3 5 = .int .i64 s := hv.get 5 (by decide) (by simp [hp])
              have HV := Lib.hid ((hv.fixE e4 rfl).fixE e5 rfl)
              clear hv
              simp only [e4, e5]
              refine wpOp_go rfl rfl (fun K hK => ?_)
              go_simp
              refine hK _ _ ?_
              exact ⟨_, rfl, HV.out.new (x := .pointer (some ⟨gz, s, none⟩)) rfl, hZ.keep, (hM0.keep (by decide)).map Off.keep, hM1.keep (by decide), hE.mono (by decide), by simp [hz]⟩
            · skip
              have e6 : V3 6 = .pointer (some ⟨gz, s, none⟩) := hv.get 6 (by decide) (by simp [hp])
              have HV := Lib.hid (hv.fixE e6 rfl)
              clear hv
              simp only [e6]
              have hY := hZ.get (fun h => off hoff (hE.get 13 7 (by decide) h))
              have z := keepc hY hc1' hlO
              refine wpOp_go rfl rfl (fun K hK => ?_)
              go_simp
              refine hK _ _ ?_
              exact ⟨_, rfl, HV.out.new (x := .slice (some ⟨gc2, 0, none⟩) n kc2) rfl, hZ.keep, (hM0.keep (by decide)).map Off.keep, hM1.keep (by decide), hE.mono (by decide), by simp [hz]⟩
            · skip
              have HV := Lib.hid hv
              clear hv
              refine wpOp_go rfl rfl (fun K hK => ?_)
              go_simp
              refine hK _ _ ?_
              exact ⟨_, rfl, HV.out.new (x := .slice (some ⟨gz, 0, none⟩) n n) rfl, hZ.keep, (hM0.keep (by decide)).map Off.keep, hM1.keep (by decide), hE.mono (by decide), by simp [hz]⟩
            · skip
              have HV := Lib.hid hv
              clear hv
              refine wpOp_go rfl rfl (fun K hK => ?_)
              go_simp
              refine hK _ _ ?_
              exact ⟨_, rfl, HV.out.new (x := .int .i64 r) rfl, hZ.keep, (hM0.keep (by decide)).map Off.keep, hM1.keep (by decide), hE.mono (by decide), by simp [hz]⟩
            · skip
              have e8 : V3 8 = .slice (some ⟨gz, 0, none⟩) n n := hv.get 8 (by decide) (by simp [hp])
              have e9 : V3 9 = .int .i64 r := hv.get 9 (by decide) (by simp [hp])
              have HV := Lib.hid ((hv.fixE e8 rfl).fixE e9 rfl)
              clear hv
              simp only [e8, e9]
              refine wpOp_go rfl rfl (fun K hK => ?_)
              go_simp
              refine hK _ _ ?_
              exact ⟨_, rfl, HV.out.new (x := .pointer (some ⟨gz, r, none⟩)) rfl, hZ.keep, (hM0.keep (by decide)).map Off.keep, hM1.keep (by decide), hE.mono (by decide), by simp [hz]⟩
            · skip
              have e10 : V3 10 = .pointer (some ⟨gz, r, none⟩) := hv.get 10 (by decide) (by simp [hp])
              have HV := Lib.hid (hv.fixE e10 rfl)
              clear hv
              simp only [e10]
              have hY := hZ.get (fun h => off hoff (hE.get 13 11 (by decide) h))
              have z := keepc hY hp1' hlO
              refine wpOp_go rfl rfl (fun K hK => ?_)
              go_simp
              refine hK _ _ ?_
              exact ⟨_, rfl, HV.out.new (x := .slice (some ⟨gp, 0, none⟩) n kp) rfl, hZ.keep, (hM0.keep (by decide)).map Off.keep, hM1.keep (by decide), hE.mono (by decide), by simp [hz]⟩
            · skip
              have e0 : V3 0 = .slice (some ⟨gz, 0, none⟩) n n := hv.get 0 (by decide) (by simp [hp])
              have e1 : V3 1 = .int .i64 r := hv.get 1 (by decide) (by simp [hp])
              have HV := Lib.hid ((hv.fixE e0 rfl).fixE e1 rfl)
              clear hv
              simp only [e0, e1]
              refine wpOp_go rfl rfl (fun K hK => ?_)
              go_simp
              refine hK _ _ ?_
              exact ⟨_, rfl, HV.out.new (x := .pointer (some ⟨gz, r, none⟩)) rfl, hZ.keep, (hM0.keep (by decide)).map Off.keep, hM1.keep (by decide), hE.mono (by decide), by simp [hz]⟩
            · skip
              have e12 : V3 12 = .pointer (some ⟨gz, r, none⟩) := hv.get 12 (by decide) (by simp [hp])
              have e7 : V3 7 = .slice (some ⟨gc2, 0, none⟩) n kc2 := hv.get 7 (by decide) (by simp [hp])
              have e11 : V3 11 = .slice (some ⟨gp, 0, none⟩) n kp := hv.get 11 (by decide) (by simp [hp])
              have HV := Lib.hid (((hv.fixE e12 rfl).fixE e7 rfl).fixE e11 rfl)
              clear hv
              simp only [e12, e7, e11]
              have hY := hZ.get (off hoff)
              obtain ⟨a1, a2, a3⟩ := hsw W' hY
              refine wpOp_go rfl rfl (fun K hK => ?_)
              go_simp
              refine hK _ _ ?_
              exact ⟨_, rfl, HV.out.other (by decide), Off.done (by omega), On.new (Off.new (a3)), fun h => absurd (hE.get 15 13 (by decide) (on_ne h (by decide))) (off hoff), hE.step (by simp [hp]), by simp [hz]⟩
            · skip
              have e2 : V3 2 = .slice (some ⟨gz, 0, none⟩) n n := hv.get 2 (by decide) (by simp [hp])
              have e3 : V3 3 = .int .i64 s := hv.get 3 (by decide) (by simp [hp])
              have HV := Lib.hid ((hv.fixE e2 rfl).fixE e3 rfl)
              clear hv
              simp only [e2, e3]
              refine wpOp_go rfl rfl (fun K hK => ?_)
              go_simp
              refine hK _ _ ?_
              exact ⟨_, rfl, HV.out.new (x := .pointer (some ⟨gz, s, none⟩)) rfl, hZ.keep, (hM0.keep (by decide)).map Off.keep, hM1.keep (by decide), hE.mono (by decide), by simp [hz]⟩
            · skip
              have e14 : V3 14 = .pointer (some ⟨gz, s, none⟩) := hv.get 14 (by decide) (by simp [hp])
              have e11 : V3 11 = .slice (some ⟨gp, 0, none⟩) n kp := hv.get 11 (by decide) (by simp [hp])
              have HV := Lib.hid ((hv.fixE e14 rfl).fixE e11 rfl)
              clear hv
              simp only [e14, e11]
              have hY := (hM0.get (by simp [hp])).get (off hoff)
              obtain ⟨⟨v0, a1⟩, a2, a3⟩ := hY
              refine wpOp_go rfl rfl (fun K hK => ?_)
              go_simp
              refine hK _ _ ?_
              exact ⟨_, rfl, HV.out.other (by decide), fun h => absurd (on_mono (by simp [hp])) h, (hM0.keep (by decide)).map (fun _ => Off.done (by omega)), On.new (a3), hE.step (by simp [hp]), by simp [hz]⟩
          · intro l a' W' hr hI
            obtain ⟨V3, rfl, hv, hZ, hM0, hM1, hE, hz⟩ := hI
            have a0 := not_ready (i := 0) hr hz rfl (by simp [Region.binds])
            have a1 := not_ready (i := 1) hr hz rfl (by simp [Region.binds, a0])
            have a2 := not_ready (i := 2) hr hz rfl (by simp [Region.binds, a0, a1])
            have a3 := not_ready (i := 3) hr hz rfl (by simp [Region.binds, a0, a1, a2])
            have a4 := not_ready (i := 4) hr hz rfl (by simp [Region.binds, a0, a1, a2, a3])
            have a5 := not_ready (i := 5) hr hz rfl (by simp [Region.binds, a0, a1, a2, a3, a4])
            have a6 := not_ready (i := 6) hr hz rfl (by simp [Region.binds, a0, a1, a2, a3, a4, a5])
            have a7 := not_ready (i := 7) hr hz rfl (by simp [Region.binds, a0, a1, a2, a3, a4, a5, a6])
            have a8 := not_ready (i := 8) hr hz rfl (by simp [Region.binds, a0, a1, a2, a3, a4, a5, a6, a7])
            have a9 := not_ready (i := 9) hr hz rfl (by simp [Region.binds, a0, a1, a2, a3, a4, a5, a6, a7, a8])
            have a10 := not_ready (i := 10) hr hz rfl (by simp [Region.binds, a0, a1, a2, a3, a4, a5, a6, a7, a8, a9])
            have a11 := not_ready (i := 11) hr hz rfl (by simp [Region.binds, a0, a1, a2, a3, a4, a5, a6, a7, a8, a9, a10])
            have a12 := not_ready (i := 12) hr hz rfl (by simp [Region.binds, a0, a1, a2, a3, a4, a5, a6, a7, a8, a9, a10, a11])
            have a13 := not_ready (i := 13) hr hz rfl (by simp [Region.binds, a0, a1, a2, a3, a4, a5, a6, a7, a8, a9, a10, a11, a12])
            have a14 := not_ready (i := 14) hr hz rfl (by simp [Region.binds, a0, a1, a2, a3, a4, a5, a6, a7, a8, a9, a10, a11, a12, a13])
            have a15 := not_ready (i := 15) hr hz rfl (by simp [Region.binds, a0, a1, a2, a3, a4, a5, a6, a7, a8, a9, a10, a11, a12, a13, a14])
            have hY := hM1.get a15
            clear hr hz hv hZ a0 a1 a2 a3 a4 a5 a6 a7 a8 a9 a10 a11 a12 a13 a14 a15 hM0 hM1 hE
            have hb := hY.below
            have hmz := hY.mat
            have HD := HD5.out _ _ n r s hrn hsn hmz
            rw [HL3.out r s hrn hsn HRS.out] at HD
            have HBz := Lib.hid (HBX.out.1.trans (hb.mono HBX.out.1.size))
            have HCz := Lib.hid (HBX.out.2.to hb)
            clear hY hb hmz hsw hp1' hc1' hlO HSA HD5 HBX
            go_wp2_with fail
            refine HD.mono ?_
            rintro e w11 ⟨E21, E22, E23, rfl, hE, hb⟩
            replace HCz := Lib.hid (HCz.out.to hb)
            replace HBz := Lib.hid (HBz.out.trans (hb.mono HBz.out.size))
            clear hb HD
            go_upto_region 21 with fail
            obtain ⟨v11, hv0⟩ : ∃ X : World, X = w11.alloc (.cells #[.bool (sn (na cx.neg)), .slice E21 (ln (ab (na cx.neg))) (ln (ab (na cx.neg))), .bool (sn (nb cx.neg)), .slice E22 (ln (ab (nb cx.neg))) (ln (ab (nb cx.neg))), .slice E23 (ln (un cx.neg)) (ln (un cx.neg))] 34) := ⟨_, rfl⟩
            have hv := hasP_new (T := 34) hE
            have hb : Below w11.heap.size w11 (w11.alloc (.cells #[.bool (sn (na cx.neg)), .slice E21 (ln (ab (na cx.neg))) (ln (ab (na cx.neg))), .bool (sn (nb cx.neg)), .slice E22 (ln (ab (nb cx.neg))) (ln (ab (nb cx.neg))), .slice E23 (ln (un cx.neg)) (ln (un cx.neg))] 34)) := (Below.refl _ _).alloc (Nat.le_refl _) _
            rw [← hv0] at hv hb ⊢
            obtain ⟨g23, hv1⟩ : ∃ g, g = w11.heap.size := ⟨_, rfl⟩
            rw [← hv1] at hv ⊢
            clear hv0 hv1
            replace HCz := Lib.hid (HCz.out.to hb)
            replace HBz := Lib.hid (HBz.out.trans (hb.mono HBz.out.size))
            obtain ⟨C1, C2, C3, hcC, hnC⟩ := HCz.out.slot
            obtain ⟨E1, E2, E3, hcE, hnE⟩ := hv.slot
            have lC := HCz.out.1
            have lE := hv.1
            have HLC : Hid (decide (cx.neg = cx.neg) = true) := Lib.hid (decide_eq_true rfl)
            clear hb hE hv HCz
            refine wp_region_any (by kernel_rfl) ?_
            refine wpAny_inv (fun l a' w' => ∃ V4 : Nat → Value, ∃ x5 x6 x7 x8 x9 x10 x11 : Value, a' = ⟨List.toArray (.slice A k c :: .slice B lb d :: .agg #[.int .u8 ↑p0, .int .u8 ↑p1, .int .u8 ↑p2] :: undef :: undef :: .pointer (some ⟨gP, 0, none⟩) :: x11 :: .int .i64 ↑n :: .slice (some ⟨gx1, 0, none⟩) n n :: .slice (some ⟨gy1, 0, none⟩) n n :: .slice P n cP :: .int .i64 0 :: .slice Q n cQ :: .int .i64 0 :: .pointer (some ⟨g14, 0, none⟩) :: .pointer (some ⟨g15, 0, none⟩) :: .pointer (some ⟨g16, 0, none⟩) :: .int .i64 0 :: .pointer (some ⟨g18, 0, none⟩) :: .int .i64 0 :: .int .i64 ↑r :: .int .i64 ↑s :: .slice (some ⟨gz, 0, none⟩) n n :: .pointer (some ⟨g23, 0, none⟩) :: .pointer (some ⟨gP, 0, none⟩) :: .int .u8 ↑p0 :: .int .i64 ↑p0 :: .int .i64 ↑n :: .slice A k c :: .int .i64 ↑n :: .slice (some ⟨gx1, 0, none⟩) n n :: .slice B lb d :: .int .i64 ↑n :: .slice (some ⟨gy1, 0, none⟩) n n :: .tuple #[.slice P n cP, .int .i64 0] :: .slice (some ⟨gx1, 0, none⟩) n n :: .slice (some ⟨gy1, 0, none⟩) n n :: .tuple #[.slice P n cP, .int .i64 0] :: .slice P n cP :: .int .i64 0 :: .tuple #[.slice Q n cQ, .int .i64 0] :: .slice (some ⟨gx1, 0, none⟩) n n :: .tuple #[.slice Q n cQ, .int .i64 0] :: .slice Q n cQ :: .int .i64 0 :: .int .i64 0 :: .bool false :: .bool false :: .int .i64 0 :: .bool false :: .bool false :: .tuple #[.agg #[.bool (sn (na cx)), .slice C11 (ln (ab (na cx))) (ln (ab (na cx))), .bool (sn (nb cx)), .slice C12 (ln (ab (nb cx))) (ln (ab (nb cx))), .slice C13 (ln (un cx)) (ln (un cx))], .int .i64 0] :: .slice (some ⟨gx1, 0, none⟩) n n :: .tuple #[.agg #[.bool (sn (na cx)), .slice C11 (ln (ab (na cx))) (ln (ab (na cx))), .bool (sn (nb cx)), .slice C12 (ln (ab (nb cx))) (ln (ab (nb cx))), .slice C13 (ln (un cx)) (ln (un cx))], .int .i64 0] :: .agg #[.bool (sn (na cx)), .slice C11 (ln (ab (na cx))) (ln (ab (na cx))), .bool (sn (nb cx)), .slice C12 (ln (ab (nb cx))) (ln (ab (nb cx))), .slice C13 (ln (un cx)) (ln (un cx))] :: .int .i64 0 :: .tuple #[.agg #[.bool (sn (na dx)), .slice E11 (ln (ab (na dx))) (ln (ab (na dx))), .bool (sn (nb dx)), .slice E12 (ln (ab (nb dx))) (ln (ab (nb dx))), .slice E13 (ln (un dx)) (ln (un dx))], .int .i64 0] :: .slice (some ⟨gy1, 0, none⟩) n n :: .tuple #[.agg #[.bool (sn (na dx)), .slice E11 (ln (ab (na dx))) (ln (ab (na dx))), .bool (sn (nb dx)), .slice E12 (ln (ab (nb dx))) (ln (ab (nb dx))), .slice E13 (ln (un dx)) (ln (un dx))], .int .i64 0] :: .agg #[.bool (sn (na dx)), .slice E11 (ln (ab (na dx))) (ln (ab (na dx))), .bool (sn (nb dx)), .slice E12 (ln (ab (nb dx))) (ln (ab (nb dx))), .slice E13 (ln (un dx)) (ln (un dx))] :: .int .i64 0 :: .tuple #[.agg #[.bool (sn (na gx)), .slice G11 (ln (ab (na gx))) (ln (ab (na gx))), .bool (sn (nb gx)), .slice G12 (ln (ab (nb gx))) (ln (ab (nb gx))), .slice G13 (ln (un gx)) (ln (un gx))], .int .i64 0] :: .slice P n cP :: .tuple #[.agg #[.bool (sn (na gx)), .slice G11 (ln (ab (na gx))) (ln (ab (na gx))), .bool (sn (nb gx)), .slice G12 (ln (ab (nb gx))) (ln (ab (nb gx))), .slice G13 (ln (un gx)) (ln (un gx))], .int .i64 0] :: .agg #[.bool (sn (na gx)), .slice G11 (ln (ab (na gx))) (ln (ab (na gx))), .bool (sn (nb gx)), .slice G12 (ln (ab (nb gx))) (ln (ab (nb gx))), .slice G13 (ln (un gx)) (ln (un gx))] :: .int .i64 0 :: .tuple #[.agg #[.bool (sn (na jx)), .slice J11 (ln (ab (na jx))) (ln (ab (na jx))), .bool (sn (nb jx)), .slice J12 (ln (ab (nb jx))) (ln (ab (nb jx))), .slice J13 (ln (un jx)) (ln (un jx))], .int .i64 0] :: .slice Q n cQ :: .tuple #[.agg #[.bool (sn (na jx)), .slice J11 (ln (ab (na jx))) (ln (ab (na jx))), .bool (sn (nb jx)), .slice J12 (ln (ab (nb jx))) (ln (ab (nb jx))), .slice J13 (ln (un jx)) (ln (un jx))], .int .i64 0] :: .agg #[.bool (sn (na jx)), .slice J11 (ln (ab (na jx))) (ln (ab (na jx))), .bool (sn (nb jx)), .slice J12 (ln (ab (nb jx))) (ln (ab (nb jx))), .slice J13 (ln (un jx)) (ln (un jx))] :: .int .i64 0 :: V 0 :: V 1 :: V 2 :: V 3 :: V 4 :: V 5 :: V 6 :: V 7 :: V 8 :: xa9 :: V 10 :: xa11 :: xa12 :: xa13 :: xa14 :: V 15 :: xa16 :: V 17 :: xa18 :: xa19 :: .bool false :: .int .i64 ↑n :: .bool false :: undef :: V2 0 :: V2 1 :: V2 2 :: V2 3 :: V2 4 :: V2 5 :: V2 6 :: V2 7 :: V2 8 :: V2 9 :: .int .i64 ↑r :: .int .i64 ↑s :: .bool false :: undef :: .slice A k c :: .int .i64 ↑n :: .slice (some ⟨gz, 0, none⟩) n n :: V3 0 :: V3 1 :: V3 2 :: V3 3 :: V3 4 :: V3 5 :: V3 6 :: V3 7 :: V3 8 :: V3 9 :: V3 10 :: V3 11 :: V3 12 :: V3 14 :: .tuple #[.agg #[.bool (sn (na cx.neg)), .slice E21 (ln (ab (na cx.neg))) (ln (ab (na cx.neg))), .bool (sn (nb cx.neg)), .slice E22 (ln (ab (nb cx.neg))) (ln (ab (nb cx.neg))), .slice E23 (ln (un cx.neg)) (ln (un cx.neg))], .int .i64 0] :: .slice (some ⟨gz, 0, none⟩) n n :: .tuple #[.agg #[.bool (sn (na cx.neg)), .slice E21 (ln (ab (na cx.neg))) (ln (ab (na cx.neg))), .bool (sn (nb cx.neg)), .slice E22 (ln (ab (nb cx.neg))) (ln (ab (nb cx.neg))), .slice E23 (ln (un cx.neg)) (ln (un cx.neg))], .int .i64 0] :: .agg #[.bool (sn (na cx.neg)), .slice E21 (ln (ab (na cx.neg))) (ln (ab (na cx.neg))), .bool (sn (nb cx.neg)), .slice E22 (ln (ab (nb cx.neg))) (ln (ab (nb cx.neg))), .slice E23 (ln (un cx.neg)) (ln (un cx.neg))] :: .int .i64 0 :: V4 0 :: V4 1 :: V4 2 :: V4 3 :: V4 4 :: x5 :: x6 :: x7 :: x8 :: x9 :: x10 :: []), []⟩ ∧ OnFix l V4 (fun zz => List.getD [.int .i64 0, .bool true, .bool true, .agg #[.bool (sn (na (cx.neg))), .slice E1 (ln (ab (na (cx.neg)))) (ln (ab (na (cx.neg)))), .bool (sn (nb (cx.neg))), .slice E2 (ln (ab (nb (cx.neg)))) (ln (ab (nb (cx.neg)))), .slice E3 (ln (un (cx.neg))) (ln (un (cx.neg)))], .agg #[.bool (sn (na cx)), .slice C1 (ln (ab (na cx))) (ln (ab (na cx))), .bool (sn (nb cx)), .slice C2 (ln (ab (nb cx))) (ln (ab (nb cx))), .slice C3 (ln (un cx)) (ln (un cx))], undef, undef, undef, undef, undef, undef, undef] zz undef) [0, 1, 2, 3, 4] ∧ (Below v11.heap.size v11 w' ∧ On l 5 (SlotNum w' x5 (cx.neg)) ∧ On l 6 (SlotB w' x6 true) ∧ On l 9 (SlotB w' x9 true)) ∧ On l 6 (x6 = .bool true) ∧ On l 7 (x7 = .bool true) ∧ On l 8 (x8 = .bool true) ∧ On l 9 (x9 = .bool true) ∧ On l 10 (x10 = .bool true) ∧ On l 11 (x11 = .bool true) ∧ l.size = 12) ?_ ?_ _ _ _ _ (by decide) ?_
            · intro l a' W' i hi hI
              obtain ⟨V4, x5, x6, x7, x8, x9, x10, x11, rfl, hv, hZ, hP6, hP7, hP8, hP9, hP10, hP11, hz⟩ := hI
              obtain ⟨hlt, hoff, hpre⟩ := ready_pre hi
              have hc : i ∈ [0, 1, 2, 3, 4, 5, 6, 7, 8, 9, 10, 11] := (by decide : ∀ i, i < 12 → i ∈ [0, 1, 2, 3, 4, 5, 6, 7, 8, 9, 10, 11]) i hlt
              simp only [List.mem_cons, List.not_mem_nil, or_false] at hc
              clear hi hlt
              rcases hc with rfl | rfl | rfl | rfl | rfl | rfl | rfl | rfl | rfl | rfl | rfl | rfl <;> (have hp := hpre _ rfl; simp [Region.binds] at hp; clear hpre)
              · skip
                have HV := Lib.hid hv
                clear hv
                refine wpOp_go rfl rfl (fun K hK => ?_)
                go_simp
                refine hK _ _ ?_
                exact ⟨_, _, _, _, _, _, _, _, rfl, HV.out.new (x := .int .i64 0) rfl, (fun ⟨hb0, y5, y6, y9⟩ => ⟨hb0, y5.keep (by decide), y6.keep (by decide), y9.keep (by decide)⟩) hZ, hP6.keep (j := 0) (by decide), hP7.keep (j := 0) (by decide), hP8.keep (j := 0) (by decide), hP9.keep (j := 0) (by decide), hP10.keep (j := 0) (by decide), hP11.keep (j := 0) (by decide), by simp [hz]⟩
              · skip
                have e0 : V4 0 = .int .i64 0 := hv.get 0 (by decide) (by simp [hp])
                have HV := Lib.hid (hv.fixE e0 rfl)
                clear hv
                simp only [e0]
                refine wpOp_go rfl rfl (fun K hK => ?_)
                go_simp
                refine hK _ _ ?_
                exact ⟨_, _, _, _, _, _, _, _, rfl, HV.out.new (x := .bool true) rfl, (fun ⟨hb0, y5, y6, y9⟩ => ⟨hb0, y5.keep (by decide), y6.keep (by decide), y9.keep (by decide)⟩) hZ, hP6.keep (j := 1) (by decide), hP7.keep (j := 1) (by decide), hP8.keep (j := 1) (by decide), hP9.keep (j := 1) (by decide), hP10.keep (j := 1) (by decide), hP11.keep (j := 1) (by decide), by simp [hz]⟩
              · skip
                have e1 : V4 1 = .bool true := hv.get 1 (by decide) (by simp [hp])
                have HV := Lib.hid (hv.fixE e1 rfl)
                clear hv
                simp only [e1]
                refine wpOp_go rfl rfl (fun K hK => ?_)
                go_simp
                refine hK _ _ ?_
                exact ⟨_, _, _, _, _, _, _, _, rfl, HV.out.new (x := .bool true) rfl, (fun ⟨hb0, y5, y6, y9⟩ => ⟨hb0, y5.keep (by decide), y6.keep (by decide), y9.keep (by decide)⟩) hZ, hP6.keep (j := 2) (by decide), hP7.keep (j := 2) (by decide), hP8.keep (j := 2) (by decide), hP9.keep (j := 2) (by decide), hP10.keep (j := 2) (by decide), hP11.keep (j := 2) (by decide), by simp [hz]⟩
              · skip
                have e2 : V4 2 = .bool true := hv.get 2 (by decide) (by simp [hp])
                have HV := Lib.hid (hv.fixE e2 rfl)
                clear hv
                simp only [e2]
                have hY := hZ
                obtain ⟨z0, z1, z2, z3, z4⟩ := hcE
                have y0 := keepc hY.1 z0 lE; have y1 := keepc hY.1 z1 lE; have y2 := keepc hY.1 z2 lE; have y3 := keepc hY.1 z3 lE; have y4 := keepc hY.1 z4 lE
                refine wpOp_gg rfl rfl (fun K hK => ?_)
                go_simp
                refine hK _ _ ?_
                exact ⟨_, _, _, _, _, _, _, _, rfl, HV.out.new (x := .agg #[.bool (sn (na (cx.neg))), .slice E1 (ln (ab (na (cx.neg)))) (ln (ab (na (cx.neg)))), .bool (sn (nb (cx.neg))), .slice E2 (ln (ab (nb (cx.neg)))) (ln (ab (nb (cx.neg)))), .slice E3 (ln (un (cx.neg))) (ln (un (cx.neg)))]) rfl, (fun ⟨hb0, y5, y6, y9⟩ => ⟨hb0, y5.keep (by decide), y6.keep (by decide), y9.keep (by decide)⟩) hZ, hP6.keep (j := 3) (by decide), hP7.keep (j := 3) (by decide), hP8.keep (j := 3) (by decide), hP9.keep (j := 3) (by decide), hP10.keep (j := 3) (by decide), hP11.keep (j := 3) (by decide), by simp [hz]⟩
              · skip
                have e2 : V4 2 = .bool true := hv.get 2 (by decide) (by simp [hp])
                have HV := Lib.hid (hv.fixE e2 rfl)
                clear hv
                simp only [e2]
                have hY := hZ
                obtain ⟨z0, z1, z2, z3, z4⟩ := hcC
                have y0 := keepc hY.1 z0 lC; have y1 := keepc hY.1 z1 lC; have y2 := keepc hY.1 z2 lC; have y3 := keepc hY.1 z3 lC; have y4 := keepc hY.1 z4 lC
                refine wpOp_gg rfl rfl (fun K hK => ?_)
                go_simp
                refine hK _ _ ?_
                exact ⟨_, _, _, _, _, _, _, _, rfl, HV.out.new (x := .agg #[.bool (sn (na cx)), .slice C1 (ln (ab (na cx))) (ln (ab (na cx))), .bool (sn (nb cx)), .slice C2 (ln (ab (nb cx))) (ln (ab (nb cx))), .slice C3 (ln (un cx)) (ln (un cx))]) rfl, (fun ⟨hb0, y5, y6, y9⟩ => ⟨hb0, y5.keep (by decide), y6.keep (by decide), y9.keep (by decide)⟩) hZ, hP6.keep (j := 4) (by decide), hP7.keep (j := 4) (by decide), hP8.keep (j := 4) (by decide), hP9.keep (j := 4) (by decide), hP10.keep (j := 4) (by decide), hP11.keep (j := 4) (by decide), by simp [hz]⟩
              · skip
                have e4 : V4 4 = .agg #[.bool (sn (na cx)), .slice C1 (ln (ab (na cx))) (ln (ab (na cx))), .bool (sn (nb cx)), .slice C2 (ln (ab (nb cx))) (ln (ab (nb cx))), .slice C3 (ln (un cx)) (ln (un cx))] := hv.get 4 (by decide) (by simp [hp])
                have e2 : V4 2 = .bool true := hv.get 2 (by decide) (by simp [hp])
                have HV := Lib.hid ((hv.fixE e4 rfl).fixE e2 rfl)
                clear hv
                simp only [e4, e2]
                have hY := hZ
                refine wpOp_gg rfl rfl (fun K hK => ?_)
                go_wp2_with (first | (go_at_call 14; refine (neg_any cx C1 C2 C3 _ (hnC.to hY.1)).mono ?_; rintro e wf ⟨F1, F2, F3, rfl, hNN, hb⟩))
                try refine hK _ _ ?_
                exact ⟨_, _, _, _, _, _, _, _, rfl, HV.out.other (by decide), ⟨hY.1.trans (hb.mono hY.1.size), On.new (⟨F1, F2, F3, rfl, hNN⟩), ((hY.2.2.1).keep (by decide)).map (fun h => h.to hb), ((hY.2.2.2).keep (by decide)).map (fun h => h.to hb)⟩, hP6.keep (j := 5) (by decide), hP7.keep (j := 5) (by decide), hP8.keep (j := 5) (by decide), hP9.keep (j := 5) (by decide), hP10.keep (j := 5) (by decide), hP11.keep (j := 5) (by decide), by simp [hz]⟩
              · skip
                have e3 : V4 3 = .agg #[.bool (sn (na (cx.neg))), .slice E1 (ln (ab (na (cx.neg)))) (ln (ab (na (cx.neg)))), .bool (sn (nb (cx.neg))), .slice E2 (ln (ab (nb (cx.neg)))) (ln (ab (nb (cx.neg)))), .slice E3 (ln (un (cx.neg))) (ln (un (cx.neg)))] := hv.get 3 (by decide) (by simp [hp])
                have e2 : V4 2 = .bool true := hv.get 2 (by decide) (by simp [hp])
                have HV := Lib.hid ((hv.fixE e3 rfl).fixE e2 rfl)
                clear hv
                simp only [e3, e2]
                have hY := hZ
                obtain ⟨F1, F2, F3, e0, hNN⟩ := hY.2.1.get (by simp [hp])
                subst e0
                refine wpOp_gg rfl rfl (fun K hK => ?_)
                go_wp2_with (first | (go_at_call 11; refine (same_to cx.neg cx.neg E1 E2 E3 F1 F2 F3 _ (hnE.to hY.1) hNN ((sz_neg HZ.out.1).mono (by decide)) ((sz_neg HZ.out.1).mono (by decide)) HLC.out).mono ?_; rintro e wf ⟨rfl, hb⟩))
                try refine hK _ _ ?_
                exact ⟨_, _, _, _, _, _, _, _, rfl, HV.out.other (by decide), ⟨hY.1.trans (hb.mono hY.1.size), ((hY.2.1).keep (by decide)).map (fun h => h.to hb), On.new (rfl), ((hY.2.2.2).keep (by decide)).map (fun h => h.to hb)⟩, On.new (rfl), hP7.keep (j := 6) (by decide), hP8.keep (j := 6) (by decide), hP9.keep (j := 6) (by decide), hP10.keep (j := 6) (by decide), hP11.keep (j := 6) (by decide), by simp [hz]⟩
              · skip
                have e2 : V4 2 = .bool true := hv.get 2 (by decide) (by simp [hp])
                have HV := Lib.hid (hv.fixE e2 rfl)
                clear hv
                simp only [e2]
                have e6 := hP6.get (by simp [hp])
                subst e6
                refine wpOp_go rfl rfl (fun K hK => ?_)
                go_simp
                refine hK _ _ ?_
                exact ⟨_, _, _, _, _, _, _, _, rfl, HV.out.other (by decide), (fun ⟨hb0, y5, y6, y9⟩ => ⟨hb0, y5.keep (by decide), y6.keep (by decide), y9.keep (by decide)⟩) hZ, hP6.keep (j := 7) (by decide), On.new (rfl), hP8.keep (j := 7) (by decide), hP9.keep (j := 7) (by decide), hP10.keep (j := 7) (by decide), hP11.keep (j := 7) (by decide), by simp [hz]⟩
              · skip
                have HV := Lib.hid hv
                clear hv
                have e7 := hP7.get (by simp [hp])
                subst e7
                refine wpOp_go rfl rfl (fun K hK => ?_)
                go_simp
                refine hK _ _ ?_
                exact ⟨_, _, _, _, _, _, _, _, rfl, HV.out.other (by decide), (fun ⟨hb0, y5, y6, y9⟩ => ⟨hb0, y5.keep (by decide), y6.keep (by decide), y9.keep (by decide)⟩) hZ, hP6.keep (j := 8) (by decide), hP7.keep (j := 8) (by decide), On.new (rfl), hP9.keep (j := 8) (by decide), hP10.keep (j := 8) (by decide), hP11.keep (j := 8) (by decide), by simp [hz]⟩
              · skip
                have HV := Lib.hid hv
                clear hv
                have hY := hZ
                have e8 := hP8.get (by simp [hp])
                subst e8
                refine wpOp_gg rfl rfl (fun K hK => ?_)
                go_wp2_with (first | (go_at_call 13; refine (awake_any _).mono ?_; rintro e wf ⟨rfl, hb⟩))
                try refine hK _ _ ?_
                exact ⟨_, _, _, _, _, _, _, _, rfl, HV.out.other (by decide), ⟨hY.1.trans (hb.mono hY.1.size), ((hY.2.1).keep (by decide)).map (fun h => h.to hb), ((hY.2.2.1).keep (by decide)).map (fun h => h.to hb), On.new (rfl)⟩, hP6.keep (j := 9) (by decide), hP7.keep (j := 9) (by decide), (hP8.map (fun _ => rfl)).keep (j := 9) (by decide), On.new (rfl), hP10.keep (j := 9) (by decide), hP11.keep (j := 9) (by decide), by simp [hz]⟩
              · skip
                have HV := Lib.hid hv
                clear hv
                have e8 := hP8.get (by simp [hp])
                subst e8
                have e9 := hP9.get (by simp [hp])
                subst e9
                refine wpOp_go rfl rfl (fun K hK => ?_)
                go_simp
                refine hK _ _ ?_
                exact ⟨_, _, _, _, _, _, _, _, rfl, HV.out.other (by decide), (fun ⟨hb0, y5, y6, y9⟩ => ⟨hb0, y5.keep (by decide), y6.keep (by decide), y9.keep (by decide)⟩) hZ, hP6.keep (j := 10) (by decide), hP7.keep (j := 10) (by decide), hP8.keep (j := 10) (by decide), hP9.keep (j := 10) (by decide), On.new (rfl), hP11.keep (j := 10) (by decide), by simp [hz]⟩
              · skip
                have HV := Lib.hid hv
                clear hv
                have e10 := hP10.get (by simp [hp])
                subst e10
                refine wpOp_go rfl rfl (fun K hK => ?_)
                go_simp
                refine hK _ _ ?_
                exact ⟨_, _, _, _, _, _, _, _, rfl, HV.out.other (by decide), (fun ⟨hb0, y5, y6, y9⟩ => ⟨hb0, y5.keep (by decide), y6.keep (by decide), y9.keep (by decide)⟩) hZ, hP6.keep (j := 11) (by decide), hP7.keep (j := 11) (by decide), hP8.keep (j := 11) (by decide), hP9.keep (j := 11) (by decide), hP10.keep (j := 11) (by decide), On.new (rfl), by simp [hz]⟩
            · intro l a' W' hr hI
              obtain ⟨V4, x5, x6, x7, x8, x9, x10, x11, rfl, hv, hZ, hP6, hP7, hP8, hP9, hP10, hP11, hz⟩ := hI
              have a0 := not_ready (i := 0) hr hz rfl (by simp [Region.binds])
              have a1 := not_ready (i := 1) hr hz rfl (by simp [Region.binds, a0])
              have a2 := not_ready (i := 2) hr hz rfl (by simp [Region.binds, a0, a1])
              have a3 := not_ready (i := 3) hr hz rfl (by simp [Region.binds, a0, a1, a2])
              have a4 := not_ready (i := 4) hr hz rfl (by simp [Region.binds, a0, a1, a2, a3])
              have a5 := not_ready (i := 5) hr hz rfl (by simp [Region.binds, a0, a1, a2, a3, a4])
              have a6 := not_ready (i := 6) hr hz rfl (by simp [Region.binds, a0, a1, a2, a3, a4, a5])
              have a7 := not_ready (i := 7) hr hz rfl (by simp [Region.binds, a0, a1, a2, a3, a4, a5, a6])
              have a8 := not_ready (i := 8) hr hz rfl (by simp [Region.binds, a0, a1, a2, a3, a4, a5, a6, a7])
              have a9 := not_ready (i := 9) hr hz rfl (by simp [Region.binds, a0, a1, a2, a3, a4, a5, a6, a7, a8])
              have a10 := not_ready (i := 10) hr hz rfl (by simp [Region.binds, a0, a1, a2, a3, a4, a5, a6, a7, a8, a9])
              have a11 := not_ready (i := 11) hr hz rfl (by simp [Region.binds, a0, a1, a2, a3, a4, a5, a6, a7, a8, a9, a10])
              have hY : Below v11.heap.size v11 W' ∧ (SlotNum W' x5 (cx.neg)) ∧ (SlotB W' x6 true) ∧ (SlotB W' x9 true) := ⟨hZ.1, hZ.2.1.get a5, hZ.2.2.1.get a6, hZ.2.2.2.get a9⟩
              have hQ11 := hP11.get a11
              clear hr hz hv hZ a0 a1 a2 a3 a4 a5 a6 a7 a8 a9 a10 a11 hP6 hP7 hP8 hP9 hP10 hP11
              rw [hQ11]
              go_wp2_with fail
              go_ret
              exact ⟨rfl, HBz.out.trans (hY.1.mono HBz.out.size)⟩
            · exact ⟨fun zz => List.getD [undef, undef, undef, undef, undef, undef, undef, undef, undef, undef, undef, Value.bool false] zz undef, _, _, _, _, _, _, _, rfl, OnFix.start, ⟨((Below.refl _ _).drew), fun h => absurd h (by decide), fun h => absurd h (by decide), fun h => absurd h (by decide)⟩, fun h => absurd h (by decide), fun h => absurd h (by decide), fun h => absurd h (by decide), fun h => absurd h (by decide), fun h => absurd h (by decide), fun h => absurd h (by decide), by simp⟩
          · exact ⟨fun zz => List.getD [undef, undef, undef, undef, undef, undef, undef, undef, undef, undef, undef, undef, undef, undef, undef, undef] zz undef, rfl, OnFix.start, Off.new (((Below.refl _ _).drew)), fun h => absurd h (by decide), fun h => absurd h (by decide), Edg.start, by simp⟩
      · exact ⟨fun zz => List.getD [undef, undef, undef, undef, undef, undef, undef, undef, undef, undef, undef, undef] zz undef, rfl, OnFix.start, ((Below.refl _ _).drew), by simp⟩
  · exact ⟨fun zz => List.getD [undef, undef, undef, undef, undef, undef, undef, undef, undef, undef, undef, undef, undef, undef, undef, undef, undef, undef, undef, undef, undef] zz undef, _, _, _, _, _, _, _, _, _, rfl, OnFix.start, ⟨((Below.refl _ _).drew), fun h => absurd h (by decide), fun h => absurd h (by decide), fun h => absurd h (by decide), fun h => absurd h (by decide)⟩, fun h => absurd h (by decide), fun h => absurd h (by decide), fun h => absurd h (by decide), fun h => absurd h (by decide), fun h => absurd h (by decide), fun h => absurd h (by decide), fun h => absurd h (by decide), by simp⟩
end Go.Proofs.Ytdpjknjlhchmcaa

namespace Go.Proofs.Ytdpjknjlhchmcaa
open Go.ChangeShapes Go.WideShapes Go.ChangeAt Go.RowKit Go.Joins Go.Deep Pl
set_option linter.unusedVariables false
section
variable {H : Type} {enc : TypeId × Value → H} {P : Program}
theorem okWide_array {w : World} {r : Reach} {base n : Nat} {t e : TypeId} {v : Value} (ht : P.underlying t = some (.array n e)) (h : Value.okWide P w r base t v) : ∃ cs, v = .agg cs ∧ cs.size = P.cellsOf t := by
  simp only [Value.okWide, ht] at h
  obtain ⟨cs, h1, h2, _⟩ := h
  exact ⟨cs, h1, h2⟩
theorem nat_u8 {z : Int} (h : (Lit.int .u8 z).wf = true) : ∃ n : Nat, z = n ∧ n < 256 := by
  have := bounds_u8 h
  exact ⟨z.toNat, by omega, by omega⟩
/-- An array of three bytes, opened. -/
theorem open_bytes3 {W : World} {t q : TypeId} {r : Reach} {base : Nat} {v : Value} {d : DataW H} {ps : List MemPlace} (ht : P.underlying t = some (.array 3 q)) (hc : P.cellsOf t = 3) (hq : P.underlying q = some (.int .u8)) (cq : P.cellsOf q = 1)
    (hv : Value.okWide P W r base t v) (h : DataW.Trod enc P W 0 (fun _ => true) true t v d ps) :
    ∃ p0 p1 p2 : Nat, v = .agg #[.int .u8 p0, .int .u8 p1, .int .u8 p2] ∧ p0 < 256 ∧ p1 < 256 ∧ p2 < 256 := by
  obtain ⟨cs, rfl, hs⟩ := okWide_array ht hv
  rw [hc] at hs
  obtain ⟨fuel, hf⟩ := h
  obtain ⟨c0, c1, c2, rfl⟩ : ∃ c0 c1 c2, cs = #[c0, c1, c2] := by
    match cs, hs with
    | ⟨[c0, c1, c2]⟩, _ => exact ⟨c0, c1, c2, rfl⟩
  have hf' : DataW.trod enc P W 0 (fun _ => true) true fuel t [c0, c1, c2] = some (d, ps) := hf
  obtain ⟨y0, y1, y2, n, _, g0, g1, g2⟩ := trod_array3 ht cq hf'
  obtain ⟨z0, e0, _, w0⟩ := DataW.trod_int hq g0
  obtain ⟨z1, e1, _, w1⟩ := DataW.trod_int hq g1
  obtain ⟨z2, e2, _, w2⟩ := DataW.trod_int hq g2
  simp at e0 e1 e2
  subst e0 e1 e2
  obtain ⟨p0, rfl, h0⟩ := nat_u8 w0
  obtain ⟨p1, rfl, h1⟩ := nat_u8 w1
  obtain ⟨p2, rfl, h2⟩ := nat_u8 w2
  exact ⟨p0, p1, p2, rfl, h0, h1, h2⟩
end
theorem numDeterminants_own : ownKnob Try.prog.godebug = none := by kernel_rfl
theorem numDeterminants_kids : Kids Try.prog (· < Try.prog.types.size) := kids_rows (by kernel_rfl) (by kernel_rfl)
theorem numDeterminants_rows : ((List.range Try.prog.types.size).all fun t => match Try.prog.underlying t with | some (.slice e) => decide (0 < Try.prog.cellsOf e) | _ => true) = true := by kernel_rfl
theorem numDeterminants_full : ∀ t e, t < Try.prog.types.size → Try.prog.underlying t = some (.slice e) → 0 < Try.prog.cellsOf e := by
  intro t e ht hu
  have h := List.all_eq_true.1 numDeterminants_rows t (List.mem_range.2 ht)
  simp only [hu] at h
  simpa using h
theorem numDeterminants_parB : (Try.f3.params.toList.all fun t => decide (t < Try.prog.types.size)) = true := by kernel_rfl
theorem numDeterminants_par : ∀ t ∈ Try.f3.params.toList, t < Try.prog.types.size := by
  intro t ht
  simpa using List.all_eq_true.1 numDeterminants_parB t ht
set_option maxRecDepth 100000 in
theorem numDeterminants_lifted (os : Os) (started : os.Started) (H : Type) (enc : TypeId × Value → H) :
    ReturnsInHanded {} Try.checked os 3 .any (Rows.numDeterminantsSpec.pre6 enc Try.prog Try.f3 Rows.numDeterminantsRow.domain false) (Rows.numDeterminantsSpec.post enc Try.prog Try.f3 false true false false) := by
  refine returnsInHanded_of_change (C := Try.checked) numDeterminants_own started (by kernel_rfl) Try.func3
    (ChangeSpec.witness6 (enc := enc) (C := Try.checked) false ⟨#[], #[.slice none 0 0, .slice none 0 0, .agg #[.int .u8 0, .int .u8 0, .int .u8 0]], []⟩ 8 (by kernel_rfl) (by kernel_rfl) (by kernel_rfl) (by kernel_rfl)) ?_
  intro W base args ds gs before hval0 hW hcnd _
  have hval : ∀ (j : Nat) t v, Try.f3.params[j]? = some t → args[j]? = some v → Value.okWide Try.prog W .any base t v := hval0
  have hW' := hW
  obtain ⟨p, q, hA0, hV, rfl, hfz, hnd⟩ := hW
  have hA : DataW.TrodAll enc Try.prog W 0 (fun _ => true) true Try.f3.params.toList args.toList ds p := hA0
  rw [Try.params3] at hA hval
  obtain ⟨v0, vs0, d0, ds0, p0, q0, hargs, rfl, rfl, h0, r0⟩ := trodAll_cons hA
  obtain ⟨v1, vs1, d1, ds1, p1, q1, rfl, rfl, rfl, h1, r1⟩ := trodAll_cons r0
  obtain ⟨v2, vs2, d2, ds2, p2, q2, rfl, rfl, rfl, h2, r2⟩ := trodAll_cons r1
  obtain ⟨rfl, rfl, rfl⟩ := trodAll_nil r2
  obtain rfl : args = #[v0, v1, v2] := by cases args; simp_all
  obtain ⟨rfl, rfl⟩ := trodVars_none hV
  have k0 : v0.cells = #[v0] := by obtain ⟨_, _, _, rfl⟩ := okWide_slice Try.underlying22 (hval 0 22 v0 rfl rfl); rfl
  have k1 : v1.cells = #[v1] := by obtain ⟨_, _, _, rfl⟩ := okWide_slice Try.underlying22 (hval 1 22 v1 rfl rfl); rfl
  obtain ⟨A, n, c, X, Y, Z, rfl, hc0, hc1, hT⟩ := open_triples Try.underlying22 Try.underlying59 (by kernel_rfl) ⟨rfl, rfl⟩ ⟨rfl, rfl⟩ ⟨rfl, rfl⟩ Try.underlying2 (by kernel_rfl) k0 h0
  obtain ⟨B, m, d, U, V, T, rfl, hd0, hd1, hU⟩ := open_triples Try.underlying22 Try.underlying59 (by kernel_rfl) ⟨rfl, rfl⟩ ⟨rfl, rfl⟩ ⟨rfl, rfl⟩ Try.underlying2 (by kernel_rfl) k1 h1
  obtain ⟨b0, b1, b2, rfl, hb0, hb1, hb2⟩ := open_bytes3 Try.underlying23 (by kernel_rfl) Try.underlying5 (by kernel_rfl) (hval 2 23 v2 rfl rfl) h2
  refine (determinants_walk W A B n c m d b0 b1 b2 X Y Z U V T hT hU (Nat.le_trans hc0 hc1) (Nat.le_trans hd0 hd1) hb0 hb1 hb2).mono fun e W' ⟨he, hg⟩ => ?_
  subst he
  simp only [List.append_nil] at hW' hA0
  exact ⟨_, rfl, read_post numDeterminants_kids numDeterminants_full numDeterminants_par hW' hA0 (fun _ _ _ => trodAll_cons_mk (shut_bool Try.underlying4 _) trodAll_mk0) rfl (fun _ => rfl) hg⟩
theorem numDeterminants_over : Rows.numDeterminantsRow.holds Try.pinned (OpenSpec.ofChange Rows.numDeterminantsSpec) :=
  OpenClaim.holds_of_wide 3 Try.f3 rfl rfl rfl rfl rfl rfl rfl ⟨rfl, rfl, rfl, rfl, rfl⟩ rfl rfl rfl rfl rfl (by kernel_rfl) Try.func3 (by kernel_rfl)
    (of_decide_eq_true (by kernel_rfl)) (by unfold Func.isWrapper; first | (rw [if_pos (by decide +kernel)]; kernel_rfl) | (rw [if_neg (by decide +kernel)]; exact ⟨rfl, rfl⟩))
    (fun os started H enc _ => numDeterminants_lifted os started H enc)
/-- THE STATEMENT. -/
theorem numDeterminants_holds : Rows.NumDeterminantsSaid := numDeterminants_over
#print axioms numDeterminants_holds
end Go.Proofs.Ytdpjknjlhchmcaa
