/- The law 'NumInverts': the walk. The statement Rows.NumInvertsSaid: for every input the law returns true, and each argument reads behind the call as it read before. No condition. -/
import Derived.Test.YtdpjknjlhchmcaaNI8
import Derived.Test.YtdpjknjlhchmcaaRows
import Derived.Laws.IdiomArrays
namespace Go.Proofs.Ytdpjknjlhchmcaa
open Go.RowKit Pl
set_option linter.unusedVariables false
set_option linter.unusedSimpArgs false
theorem sz_dot2 {f g : Nat → Nat → Cx} {i k A B : Nat} : ∀ j, (∀ l, l < j → sz A (f i l) ∧ sz B (g l k)) → sz (j * (A + B + 2) + 1) (dotC f g i k j) := by
  intro j
  induction j with
  | zero => intro _; exact sz_int0.mono (by omega)
  | succ j ih => intro h; exact (sz_add2 (ih fun l hl => h l (by omega)) (sz_mul2 (h j (by omega)).1 (h j (by omega)).2)).mono (by rw [Nat.succ_mul]; omega)
theorem sz_dot3 {f g : Nat → Nat → Cx} {i k K j : Nat} (hj : j ≤ 4) (h : ∀ l, l < j → sz K (f i l) ∧ sz K (g l k)) : sz (10 * K + 10) (dotC f g i k j) := by
  refine (sz_dot2 j h).mono ?_
  have h4 : j * (K + K + 2) ≤ 4 * (K + K + 2) := Nat.mul_le_mul_right _ hj
  omega
theorem box_row {w : World} {q : Cx} {A1 A2 A3 : Option Addr} {T : TypeId} (n : Num3 w A1 A2 A3 q) : RowB (w.alloc (.cells #[.bool (sn (na q)), .slice A1 (ln (ab (na q))) (ln (ab (na q))), .bool (sn (nb q)), .slice A2 (ln (ab (nb q))) (ln (ab (nb q))), .slice A3 (ln (un q)) (ln (un q))] T)) w.heap.size T (1 * 5) ∧ PE (w.alloc (.cells #[.bool (sn (na q)), .slice A1 (ln (ab (na q))) (ln (ab (na q))), .bool (sn (nb q)), .slice A2 (ln (ab (nb q))) (ln (ab (nb q))), .slice A3 (ln (un q)) (ln (un q))] T)) w.heap.size (0 * 5) q := by
  have h : (w.alloc (.cells #[.bool (sn (na q)), .slice A1 (ln (ab (na q))) (ln (ab (na q))), .bool (sn (nb q)), .slice A2 (ln (ab (nb q))) (ln (ab (nb q))), .slice A3 (ln (un q)) (ln (un q))] T)).rowIs w.heap.size T 5 (fun j => (#[.bool (sn (na q)), .slice A1 (ln (ab (na q))) (ln (ab (na q))), .bool (sn (nb q)), .slice A2 (ln (ab (nb q))) (ln (ab (nb q))), .slice A3 (ln (un q)) (ln (un q))] : Array Value)[j]!) := World.rowIs_alloc w #[.bool (sn (na q)), .slice A1 (ln (ab (na q))) (ln (ab (na q))), .bool (sn (nb q)), .slice A2 (ln (ab (nb q))) (ln (ab (nb q))), .slice A3 (ln (un q)) (ln (un q))] T (fun j => (#[.bool (sn (na q)), .slice A1 (ln (ab (na q))) (ln (ab (na q))), .bool (sn (nb q)), .slice A2 (ln (ab (nb q))) (ln (ab (nb q))), .slice A3 (ln (un q)) (ln (un q))] : Array Value)[j]!) (fun i hi => by
    have hi5 : i < 5 := hi
    have : i = 0 ∨ i = 1 ∨ i = 2 ∨ i = 3 ∨ i = 4 := by omega
    rcases this with rfl | rfl | rfl | rfl | rfl <;> rfl)
  exact ⟨⟨⟨_, h⟩, sn (na q), by go_simp⟩, A1, A2, A3, ⟨by go_simp, by go_simp, by go_simp, by go_simp, by go_simp⟩, num3_alloc n⟩
theorem bd2 {n : Nat} (h : n ≤ 4) : bd 2 n ≤ 3700 := Nat.le_trans (bd_mono 2 n 4 h) (by decide)
theorem sz_solved {n K0 : Nat} {f : Nat → Nat → Cx} {q : Nat → Cx} (hn : n ≤ 5) (hK : 1 ≤ K0) (hS : ∀ i k, i < n → k < n → sz K0 (f i k)) (hSq : ∀ i, i < n → sz K0 (q i)) (h : (elimF n 0 0 f).2.1 = -1) : ∀ i, i < n → sz (2728 * bd K0 n + 11300) (back (elimF n 0 0 (beside n f fun _ i => q i)).2.2 n n i) := by
  intro i hi
  have hSF : ∀ i k, i < n → k < n + 1 → sz K0 (beside n f (fun _ i => q i) i k) := by
    intro i k hi hk
    unfold beside
    split
    · exact hS i k hi (by omega)
    · exact hSq i hi
  have h1 := elim_sz (n := n) (m := n + 1) (by omega) hK n 0 0 (beside n f fun _ i => q i) (by omega) hSF
  have h2 := elim_diag n 0 0 (beside n f fun _ i => q i) (show 0 + n = n by omega) (fun i hi => absurd hi (Nat.not_lt_zero _)) ((stop_same f q).trans h)
  exact (sz_back hn (Nat.le_trans hK (bd_le K0 n)) h1 h2 n (Nat.le_refl n) i (by omega) hi).mono (xb_le hn)
set_option maxRecDepth 100000 in
set_option maxHeartbeats 40000000 in
theorem inverts_walk (w : World) (A B : Option Addr) (k c lb d p0 : Nat) (X Y Z U V T : Nat → Int) (hT : Triples w A k X Y Z) (hU : Triples w B lb U V T) (hk : k ≤ maxLen) (hl : lb ≤ maxLen) (h0 : p0 < 256) :
    Calls Try.prog 4 #[.slice A k c, .slice B lb d, .int .u8 p0] w fun e w' => e = .returned (.bool true) ∧ Below w.heap.size w w' := by
  obtain ⟨n, hnn⟩ : ∃ n, n = p0 % 5 := ⟨_, rfl⟩
  have hn4 : n ≤ 4 := by omega
  have q0 : (p0 : Int).tmod 5 = (n : Int) := by rw [hnn]; rfl
  obtain ⟨sa, hsa⟩ : ∃ f, f = sqm k n X Y Z := ⟨_, rfl⟩
  obtain ⟨sb, hsb⟩ : ∃ f, f = sqm lb n U V T := ⟨_, rfl⟩
  have hza : ∀ i j, sz 2 (sa i j) := fun i j => by rw [hsa]; exact sz_sqm hT n i j
  have hzb : ∀ i j, sz 2 (sb i j) := fun i j => by rw [hsb]; exact sz_sqm hU n i j
  have hbd := bd2 hn4
  obtain ⟨cx, hcx⟩ : ∃ q, q = detF n sa := ⟨_, rfl⟩
  obtain ⟨rk, hrk⟩ : ∃ q, q = rankF n n 0 0 sa := ⟨_, rfl⟩
  have zcx : sz 10000000 cx := by rw [hcx]; exact (sz_detF (by omega) (by decide) (fun i j _ _ => hza i j)).mono (by omega)
  have HZ := Lib.hid zcx
  have HCX := Lib.hid (show cx ≠ Cx.zero ↔ (elimF n 0 0 sa).2.1 = -1 by rw [hcx]; exact det_iff sa)
  have HRK := Lib.hid (show rk = n ↔ (elimF n 0 0 sa).2.1 = -1 by rw [hrk]; exact rank_iff sa)
  have HD1 := Lib.hid (fun (W : World) (A : Option Addr) (m : Nat) (h : MatP W A n (fun _ => n) sa) => det_any W A n m 2 (fun _ => n) sa h (by omega) (fun _ _ => rfl) (by decide) (by omega) (fun i j _ _ => hza i j))
  have HR1 := Lib.hid (fun (W : World) (A : Option Addr) (m : Nat) (h : MatP W A n (fun _ => n) sa) => rank_any W A n n m 2 (fun _ => n) sa h (by omega) (by omega) (fun _ _ => rfl) (col_same n) (fun h => h) (by decide) (by omega) (fun i j _ _ => hza i j))
  have HI1 := Lib.hid (fun (W : World) (A : Option Addr) (m : Nat) (h : MatP W A n (fun _ => n) sa) => inverse_any W A n m 2 (fun _ => n) sa h (by omega) (fun _ _ => rfl) (by decide) (by omega) (fun i j _ _ => hza i j))
  have HSO := Lib.hid (fun (W : World) (A B : Option Addr) (m m2 r : Nat) (h : MatP W A n (fun _ => n) sa) (h' : NumsP W B n (sb r)) => solve_any W A B n m m2 2 (fun _ => n) sa (sb r) h h' (by omega) (fun _ _ => rfl) (by decide) (by omega) (fun i j _ _ => hza i j) (fun i _ => hzb r i))
  rw [← hcx] at HD1
  rw [← hrk] at HR1
  have HSA := Lib.hid (fun (W : World) (hb : Below w.heap.size w W) => sq_law W A k c n X Y Z (hT.to hb) (by omega) hk)
  have HSB := Lib.hid (fun (W : World) (hb : Below w.heap.size w W) => sq_law W B lb d n U V T (hU.to hb) (by omega) hl)
  rw [← hsa] at HSA
  rw [← hsb] at HSB
  have HZA := Lib.hid (And.intro hza (And.intro hzb hbd))
  have HB := Lib.hid (Below.refl w.heap.size w)
  clear hnn hsa hsb hza hzb hbd hcx hrk zcx hT hU hk hl
  go_enter Try.func4, Try.ntmps4
  go_upto_region 2 with fail
  clear q0 h0
  go_wp2_with fail
  refine (HSA.out _ HB.out).mono ?_
  rintro e w1 ⟨gx, rfl, hx⟩
  have hb := hx.below
  replace HB := Lib.hid (HB.out.trans (hb.mono HB.out.size))
  have HX := Lib.hid hx.mat
  clear hx hb HSA
  go_wp2_with fail
  refine (HD1.out _ _ _ HX.out).mono ?_
  rintro e w2 ⟨C11, C12, C13, rfl, hC, hb⟩
  replace HB := Lib.hid (HB.out.trans (hb.mono HB.out.size))
  replace HX := Lib.hid (HX.out.to hb)
  clear hb HD1
  go_upto_region 4 with fail
  obtain ⟨v2, hv0⟩ : ∃ X : World, X = w2.alloc (.cells #[.bool (sn (na cx)), .slice C11 (ln (ab (na cx))) (ln (ab (na cx))), .bool (sn (nb cx)), .slice C12 (ln (ab (nb cx))) (ln (ab (nb cx))), .slice C13 (ln (un cx)) (ln (un cx))] 34) := ⟨_, rfl⟩
  have hv := hasP_new (T := 34) hC
  have hb : Below w2.heap.size w2 (w2.alloc (.cells #[.bool (sn (na cx)), .slice C11 (ln (ab (na cx))) (ln (ab (na cx))), .bool (sn (nb cx)), .slice C12 (ln (ab (nb cx))) (ln (ab (nb cx))), .slice C13 (ln (un cx)) (ln (un cx))] 34)) := (Below.refl _ _).alloc (Nat.le_refl _) _
  rw [← hv0] at hv hb ⊢
  obtain ⟨gc, hv1⟩ : ∃ g, g = w2.heap.size := ⟨_, rfl⟩
  rw [← hv1] at hv ⊢
  replace HB := Lib.hid (HB.out.trans (hb.mono HB.out.size))
  replace HX := Lib.hid (HX.out.to hb)
  have HC := Lib.hid hv
  clear hv0 hv1 hb hv hC
  go_wp2_with fail
  refine (HR1.out _ _ _ HX.out).mono ?_
  rintro e w3 ⟨rfl, hb⟩
  replace HB := Lib.hid (HB.out.trans (hb.mono HB.out.size))
  replace HX := Lib.hid (HX.out.to hb)
  replace HC := Lib.hid (HC.out.to hb)
  clear hb HR1
  go_wp2_with fail
  refine (HI1.out _ _ _ HX.out).mono ?_
  rintro e w4 (⟨hst, rfl, hb⟩ | ⟨hst, gv, rfl, hV, hb⟩)
  · replace HB := Lib.hid (HB.out.trans (hb.mono HB.out.size))
    replace HC := Lib.hid (HC.out.to hb)
    have hc0 : cx = Cx.zero := by
      by_cases e : cx = Cx.zero
      · exact e
      · have := HCX.out.1 e; omega
    have hr0 : ¬ rk = n := fun e => by have := HRK.out.1 e; omega
    have t1 : ((rk : Int) == (n : Int)) = false := by rw [beq_eq_false_iff_ne]; omega
    have HCL := Lib.hid (la13 hc0)
    obtain ⟨C1, C2, C3, ⟨y0, y1, y2, y3, y4⟩, hN⟩ := HC.out.slot
    have lC := HC.out.1
    clear hst hb hc0 hr0 HI1 HX HCX HRK HSO HZA
    go_wp2_with fail
    refine (clear_to cx C1 C2 C3 _ hN (HZ.out.mono (by decide)) HCL.out).mono ?_
    rintro e w5 ⟨rfl, hb⟩
    have HC5 := HC.out.to hb
    replace HB := Lib.hid (HB.out.trans (hb.mono HB.out.size))
    clear y0 y1 y2 y3 y4 hN lC hb HC
    obtain ⟨D1, D2, D3, ⟨y0, y1, y2, y3, y4⟩, hN⟩ := HC5.slot
    have lC := HC5.1
    clear HC5
    go_wp2_with fail
    refine (clear_to cx D1 D2 D3 _ hN (HZ.out.mono (by decide)) HCL.out).mono ?_
    rintro e w6 ⟨rfl, hb⟩
    replace HB := Lib.hid (HB.out.trans (hb.mono HB.out.size))
    clear y0 y1 y2 y3 y4 hN lC hb HCL
    go_wp2_with fail
    refine (HSB.out _ HB.out).mono ?_
    rintro e w7 ⟨gy, rfl, hy⟩
    have hb := hy.below
    replace HB := Lib.hid (HB.out.trans (hb.mono HB.out.size))
    clear hy hb HSB
    go_wp2_with fail
    refine (awake_any _).mono ?_
    rintro e w8 ⟨rfl, hb⟩
    go_wp2_with fail
    go_ret
    exact ⟨rfl, HB.out.trans (hb.mono HB.out.size)⟩
  · replace HB := Lib.hid (HB.out.trans (hb.mono HB.out.size))
    replace HC := Lib.hid (HC.out.to hb)
    replace HX := Lib.hid (HX.out.to hb)
    have HV := Lib.hid hV
    have hc0 : cx ≠ Cx.zero := HCX.out.2 hst
    have hr0 : rk = n := HRK.out.2 hst
    have t1 : ((rk : Int) == (n : Int)) = true := by rw [beq_iff_eq]; omega
    have HCL := Lib.hid (la14 hc0)
    have HST := Lib.hid hst
    have zid : ∀ r i, sz 2 (idm r i) := fun r i => by
      unfold idm
      split
      · exact (sz_int (n := 1) (K := 1) (by show ln 1 ≤ 1; rw [ln_one]; omega) (by omega)).mono (by omega)
      · exact sz_int0.mono (by omega)
    have zi : ∀ i k, i < n → sz 11000000 (invF n sa i k) := fun i k hi => (sz_solved (n := n) (K0 := 2) (f := sa) (q := idm k) (by omega) (by decide) (fun i j _ _ => HZA.out.1 i j) (fun i _ => zid k i) hst i hi).mono (by have := HZA.out.2.2; omega)
    have zxs : ∀ r i, i < n → sz 11000000 (back (elimF n 0 0 (beside n sa fun _ i => sb r i)).2.2 n n i) := fun r i hi => (sz_solved (n := n) (K0 := 2) (f := sa) (q := sb r) (by omega) (by decide) (fun i j _ _ => HZA.out.1 i j) (fun i _ => HZA.out.2.1 r i) hst i hi).mono (by have := HZA.out.2.2; omega)
    have HP1 := Lib.hid (fun (W : World) (m m2 : Nat) (h : MatP W (some ⟨gx, 0, none⟩) n (fun _ => n) sa) (h' : MatP W (some ⟨gv, 0, none⟩) n (fun _ => n) (invF n sa)) => product_big W (some ⟨gx, 0, none⟩) (some ⟨gv, 0, none⟩) n m n m2 (fun _ => n) (fun _ => n) sa (invF n sa) h h' (by omega) (fun _ _ => by omega) (by omega) (fun _ _ => by omega) (valid_const n n (by omega) (by omega)) (valid_const n n (by omega) (by omega)) (col_same n) (fun i k j _ _ hj => ⟨(HZA.out.1 i j).mono (by omega), (zi j k hj).mono (by omega), (sz_dot3 (K := 11000000) (by omega) fun l hl => ⟨(HZA.out.1 i l).mono (by omega), zi l k (by omega)⟩).mono (by omega), (sz_mul2 (HZA.out.1 i j) (zi j k hj)).mono (by omega)⟩))
    have HP2 := Lib.hid (fun (W : World) (m m2 : Nat) (h : MatP W (some ⟨gx, 0, none⟩) n (fun _ => n) sa) (h' : MatP W (some ⟨gv, 0, none⟩) n (fun _ => n) (invF n sa)) => product_big W (some ⟨gv, 0, none⟩) (some ⟨gx, 0, none⟩) n m2 n m (fun _ => n) (fun _ => n) (invF n sa) sa h' h (by omega) (fun _ _ => by omega) (by omega) (fun _ _ => by omega) (valid_const n n (by omega) (by omega)) (valid_const n n (by omega) (by omega)) (col_same n) (fun i k j hi _ hj => ⟨(zi i j hi).mono (by omega), (HZA.out.1 j k).mono (by omega), (sz_dot3 (K := 11000000) (by omega) fun l hl => ⟨zi i l hi, (HZA.out.1 l k).mono (by omega)⟩).mono (by omega), (sz_mul2 (zi i j hi) (HZA.out.1 j k)).mono (by omega)⟩))
    rw [col_same] at HP1 HP2
    have hid : idn (n : Int) = n := by unfold idn; rw [if_neg (by omega), if_neg (by omega)]; omega
    have HID := Lib.hid (fun (W : World) => identity_any W (n : Int))
    rw [hid] at HID
    have HS1 := Lib.hid (fun (W : World) (P E : Option Addr) (a b : Nat) (h : MatP W P n (fun _ => n) (fun i k => dotC sa (invF n sa) i k n)) (h' : MatP W E n (fun _ => n) idm) => same_true W P E n n a b _ idm h h' (fun i k hi hk => inv_right hst i k hi) (fun i k hi hk => by show sz _ (dotC sa (invF n sa) i k n); rw [inv_right hst i k hi]; exact (zid i k).mono (by decide)) (by omega) (by omega))
    have HS2 := Lib.hid (fun (W : World) (P Q : Option Addr) (a b : Nat) (h : MatP W Q n (fun _ => n) (fun i k => dotC (invF n sa) sa i k n)) (h' : MatP W P n (fun _ => n) (fun i k => dotC sa (invF n sa) i k n)) => same_true W Q P n n a b _ _ h h' (fun i k hi hk => by show dotC (invF n sa) sa i k n = dotC sa (invF n sa) i k n; rw [inv_left hst i k hi hk, inv_right hst i k hi]) (fun i k hi hk => by show sz _ (dotC (invF n sa) sa i k n); rw [inv_left hst i k hi hk]; exact (zid i k).mono (by decide)) (by omega) (by omega))
    have HXS := Lib.hid zxs
    obtain ⟨C1, C2, C3, ⟨y0, y1, y2, y3, y4⟩, hN⟩ := HC.out.slot
    have lC := HC.out.1
    clear hst hb hc0 hr0 HI1 HCX HRK hV zid zi zxs hid
    go_wp2_with fail
    refine (clear_to cx C1 C2 C3 _ hN (HZ.out.mono (by decide)) HCL.out).mono ?_
    rintro e w5 ⟨rfl, hb⟩
    have HC5 := HC.out.to hb
    replace HB := Lib.hid (HB.out.trans (hb.mono HB.out.size))
    replace HX := Lib.hid (HX.out.to hb)
    replace HV := Lib.hid (HV.out.to hb)
    clear y0 y1 y2 y3 y4 hN lC hb HC
    obtain ⟨D1, D2, D3, ⟨y0, y1, y2, y3, y4⟩, hN⟩ := HC5.slot
    have lC := HC5.1
    clear HC5
    go_wp2_with fail
    refine (clear_to cx D1 D2 D3 _ hN (HZ.out.mono (by decide)) HCL.out).mono ?_
    rintro e w6 ⟨rfl, hb⟩
    replace HB := Lib.hid (HB.out.trans (hb.mono HB.out.size))
    replace HX := Lib.hid (HX.out.to hb)
    replace HV := Lib.hid (HV.out.to hb)
    clear y0 y1 y2 y3 y4 hN lC hb HCL
    go_wp2_with fail
    refine (HSB.out _ HB.out).mono ?_
    rintro e w7 ⟨gy, rfl, hy⟩
    have hb := hy.below
    have HY := Lib.hid hy.mat
    replace HB := Lib.hid (HB.out.trans (hb.mono HB.out.size))
    replace HX := Lib.hid (HX.out.to hb)
    replace HV := Lib.hid (HV.out.to hb)
    clear hy hb HSB
    go_wp2_with fail
    refine (HP1.out _ _ _ HX.out HV.out).mono ?_
    rintro e w8 ⟨P, cP, rfl, hP, hb⟩
    have HPM := Lib.hid hP
    replace HB := Lib.hid (HB.out.trans (hb.mono HB.out.size))
    replace HX := Lib.hid (HX.out.to hb)
    replace HV := Lib.hid (HV.out.to hb)
    replace HY := Lib.hid (HY.out.to hb)
    clear hP hb HP1
    go_wp2_with fail
    refine (HP2.out _ _ _ HX.out HV.out).mono ?_
    rintro e w9 ⟨Q, cQ, rfl, hQ, hb⟩
    have HQM := Lib.hid hQ
    replace HPM := Lib.hid (HPM.out.to hb)
    replace HB := Lib.hid (HB.out.trans (hb.mono HB.out.size))
    replace HX := Lib.hid (HX.out.to hb)
    replace HY := Lib.hid (HY.out.to hb)
    clear hQ hb HP2 HV
    go_wp2_with fail
    refine (HID.out _).mono ?_
    rintro e w10 ⟨E, cE, rfl, hE, hb⟩
    replace HPM := Lib.hid (HPM.out.to hb)
    replace HQM := Lib.hid (HQM.out.to hb)
    replace HB := Lib.hid (HB.out.trans (hb.mono HB.out.size))
    replace HX := Lib.hid (HX.out.to hb)
    replace HY := Lib.hid (HY.out.to hb)
    have HE := Lib.hid hE
    clear hb hE HID
    go_wp2_with fail
    refine (HS1.out _ _ _ _ _ HPM.out HE.out).mono ?_
    rintro e w11 ⟨rfl, hb⟩
    replace HPM := Lib.hid (HPM.out.to hb)
    replace HQM := Lib.hid (HQM.out.to hb)
    replace HB := Lib.hid (HB.out.trans (hb.mono HB.out.size))
    replace HX := Lib.hid (HX.out.to hb)
    replace HY := Lib.hid (HY.out.to hb)
    clear hb HE HS1
    go_wp2_with fail
    refine (HS2.out _ _ _ _ _ HQM.out HPM.out).mono ?_
    rintro e w12 ⟨rfl, hb⟩
    replace HB := Lib.hid (HB.out.trans (hb.mono HB.out.size))
    replace HX := Lib.hid (HX.out.to hb)
    replace HY := Lib.hid (HY.out.to hb)
    clear hb HPM HQM HS2
    go_upto_region 16 with fail
    obtain ⟨wL, hwL⟩ : ∃ X : World, X = w12 := ⟨_, rfl⟩
    rw [← hwL] at HB HX HY ⊢
    clear hwL
    go_loopw [111] (fun i (wr : World) => ∃ r : Nat, r ≤ n ∧ i = .int .i64 r ∧ Below wL.heap.size wL wr) (fun i _ => n - (intOf i).toNat)
    case atStart => exact ⟨0, Nat.zero_le _, rfl, Below.refl _ _⟩
    case round =>
      obtain ⟨r, hr, rfl, hb⟩ := hrel
      by_cases hrn : r < n
      · obtain ⟨R, K, g1, g2⟩ := HY.out.to hb
        obtain ⟨bY, fY, eY, hlY, r1⟩ := g1 r hrn
        injection eY with eY; injection eY with e1 e2; subst e1 e2
        rw [Nat.zero_add] at r1
        have hNE : NumsP wr (R r) n (sb r) := fun j hj => g2 r hrn j hj
        have HNE := Lib.hid hNE
        have HCL := Lib.hid (HSO.out wr (some ⟨gx, 0, none⟩) (R r) n (K r) r (HX.out.to hb) hNE)
        have hmk := mk_nums2 n (by omega)
        have i1 : (0 : Int) ≤ (r : Int) := by omega
        have i2 : (r : Int) < (n : Int) := by omega
        generalize R r = Rr at *
        generalize K r = Kr at *
        have HBR := Lib.hid hb
        clear g1 g2 hb hNE
        go_wp2_with fail
        refine HCL.out.mono ?_
        rintro e w13 (⟨h0, _, _⟩ | ⟨h0, gs, rfl, hx, _, hb⟩)
        · exfalso
          rw [(stop_same sa (sb r)).trans HST.out] at h0
          omega
        · obtain ⟨xs, hxs⟩ : ∃ f, f = back (elimF n 0 0 (beside n sa fun _ i => sb r i)).2.2 n n := ⟨_, rfl⟩
          have HSD := Lib.hid (show ∀ i, i < n → rsum sa xs i n = sb r i by rw [hxs]; exact solve_dot (sb r) HST.out)
          have HZX := Lib.hid (show ∀ i, i < n → sz 11000000 (xs i) by rw [hxs]; exact HXS.out r)
          rw [← hxs] at hx
          have HXX := Lib.hid hx
          have HNE2 := Lib.hid (HNE.out.to hb)
          have HB13 := Lib.hid (HBR.out.trans (hb.mono HBR.out.size))
          have hn0 : 0 < n := by omega
          clear h0 hb hx hxs HCL HNE r1 hlY HBR
          go_upto_region 23 with fail
          clear hmk
          have hB0 : MkP w13 w13.heap.size n 1 0 (fun _ _ => True) (fun i _ => xs i) (mkS w13 n 42) := MkP.new
          generalize mkS w13 n 42 = W0 at *
          obtain ⟨gC, hgC⟩ : ∃ g, g = w13.heap.size := ⟨_, rfl⟩
          rw [← hgC] at hB0 ⊢
          clear hgC
          go_loopw [133] (fun q (wr : World) => ∃ j : Nat, j ≤ n ∧ q = .int .i64 j ∧ MkP w13 gC n 1 j (fun _ _ => True) (fun i _ => xs i) wr) (fun q _ => n - (intOf q).toNat)
          case atStart => exact ⟨0, Nat.zero_le _, rfl, hB0⟩
          case round =>
            obtain ⟨j, hj, rfl, hM⟩ := hrel
            clear hB0
            by_cases hjn : j < n
            · obtain ⟨g', eg, A1, A2, A3, ⟨y0, y1, y2, y3, y4⟩, hN⟩ := (HXX.out.to hM.below) j hjn
              injection eg with eg; injection eg with eg; subst eg
              obtain ⟨x, hx⟩ : ∃ x, x = xs j := ⟨_, rfl⟩
              rw [← hx] at y0 y1 y2 y3 y4 hN
              have hal : Below wr.heap.size wr (wr.alloc (.cells #[.bool (sn (na x)), .slice A1 (ln (ab (na x))) (ln (ab (na x))), .bool (sn (nb x)), .slice A2 (ln (ab (nb x))) (ln (ab (nb x))), .slice A3 (ln (un x)) (ln (un x))] 34)) := (Below.refl _ _).alloc (Nat.le_refl _) _
              obtain ⟨v0, b1, b2⟩ := (hM.to hal).at hjn
              have hrow := box_row (T := 34) hN
              have HRR := Lib.hid (hM.rowR (f := fun i _ => xs i) hjn hal (Nat.le_refl _) (by simp) (fun _ => hrow.1) (fun k hk _ => by
                obtain rfl : k = 0 := by omega
                show PE _ _ _ (xs j)
                rw [← hx]; exact hrow.2))
              have i3 : (0 : Int) ≤ (j : Int) := by omega
              have i4 : (j : Int) < (n : Int) := by omega
              clear hM hal hrow hx hN
              go_wp2_with fail
              go_roundw
              case rel => exact ⟨j + 1, by omega, by go_num, HRR.out⟩
              case measure => simp [intOf]; omega
            · obtain rfl : j = n := by omega
              obtain ⟨hC1, hC2⟩ := hM.fin (fun _ _ => trivial)
              have HB14 := Lib.hid (HB13.out.trans (hC2.mono HB13.out.size))
              have HNE3 := Lib.hid (HNE2.out.to hC2)
              have hc1 : colN j (fun _ => 1) = 1 := by unfold colN; rw [if_neg (by omega)]
              have HP3 := Lib.hid (product_big wr (some ⟨gx, 0, none⟩) (some ⟨gC, 0, none⟩) j j j j (fun _ => j) (fun _ => 1) sa (fun i _ => xs i) (HX.out.to HB14.out) hC1 (by omega) (fun _ _ => by omega) (by omega) (fun _ _ => by omega) (valid_const j j (by omega) (by omega)) (valid_const j 1 (by omega) (by omega)) (col_same j) (fun i k l _ _ hl => ⟨(HZA.out.1 i l).mono (by omega), (HZX.out l hl).mono (by omega), (sz_dot3 (K := 11000000) (by omega) fun l' hl' => ⟨(HZA.out.1 i l').mono (by omega), HZX.out l' (by omega)⟩).mono (by omega), (sz_mul2 (HZA.out.1 i l) (HZX.out l hl)).mono (by omega)⟩))
              rw [hc1] at HP3
              clear hM hC1 hC2 HB13 HNE2 hc1 HXX
              go_wp2_with fail
              refine HP3.out.mono ?_
              rintro e w15 ⟨Yp, cY, rfl, hYp, hb⟩
              have HYP := Lib.hid hYp
              have HB15 := Lib.hid (HB14.out.trans (hb.mono HB14.out.size))
              have HNE4 := Lib.hid (HNE3.out.to hb)
              clear hYp hb HP3 HB14 HNE3
              go_upto_region 31 with fail
              obtain ⟨wM, hwM⟩ : ∃ X : World, X = w15 := ⟨_, rfl⟩
              rw [← hwM] at HYP HB15 HNE4 ⊢
              clear hwM
              go_loopw [161] (fun q (wr : World) => ∃ i : Nat, i ≤ j ∧ q = .int .i64 i ∧ Below wM.heap.size wM wr) (fun q _ => j - (intOf q).toNat)
              case atStart => exact ⟨0, Nat.zero_le _, rfl, Below.refl _ _⟩
              case round =>
                obtain ⟨i, hi, rfl, hb⟩ := hrel
                by_cases hij : i < j
                · obtain ⟨bb, fo, ga, Ka, A1, A2, A3, rfl, hlA, r1, r2, hcs, hN⟩ := (HYP.out.to hb).at (i := i) (j := 0) hij (by omega) rfl
                  obtain ⟨gb, eb, B1, B2, B3, hds, hM⟩ := (HNE4.out.to hb) i hij
                  subst eb
                  have p2 := World.block_lt_of_cell? wr ⟨gb, _, none⟩ hds.1
                  simp only [Nat.zero_mul, Nat.zero_add] at hcs
                  obtain ⟨x, hx⟩ : ∃ x, x = dotC sa (fun i _ => xs i) i 0 j := ⟨_, rfl⟩
                  obtain ⟨y, hy⟩ : ∃ y, y = sb r i := ⟨_, rfl⟩
                  have hxy : x = y := by rw [hx, hy, dot_rsum]; exact HSD.out i hij
                  rw [← hx] at hcs hN
                  rw [← hy] at hds hM
                  have zy : sz 137438953472 y := by rw [hy]; exact (HZA.out.2.1 r i).mono (by omega)
                  have zx : sz 137438953472 x := by rw [hxy]; exact zy
                  have ZZ := Lib.hid (And.intro zx (And.intro zy (show decide (x = y) = true from decide_eq_true hxy)))
                  have HBB := Lib.hid hb
                  have i5 : (0 : Int) ≤ (i : Int) := by omega
                  have i6 : (i : Int) < (j : Int) := by omega
                  clear hb hx hy hxy zx zy
                  go_upto_region 33 with fail
                  refine wp_region_any (by kernel_rfl) ?_
                  refine wpAny_inv (fun l a' w' => ∃ V9 : Nat → Value, ∃ x17 x18 x19 : Value, a' = ⟨List.toArray (.slice A k c :: .slice B lb d :: .int .u8 ↑p0 :: undef :: undef :: undef :: u6 :: .int .i64 ↑j :: .slice (some ⟨gx, 0, none⟩) j j :: .pointer (some ⟨gc, 0, none⟩) :: .int .i64 0 :: .int .i64 ↑rk :: .int .i64 0 :: .slice (some ⟨gv, 0, none⟩) j j :: .int .i64 0 :: .slice (some ⟨gy, 0, none⟩) j j :: .slice P j cP :: .slice Q j cQ :: undef :: .slice (some ⟨gb, 0, none⟩) j Kr :: .slice (some ⟨gs, 0, none⟩) j j :: .int .i64 0 :: .slice (some ⟨gC, 0, none⟩) j j :: u23 :: .slice (some ⟨bb, fo, none⟩) j cY :: .int .i64 ↑i :: .int .u8 ↑p0 :: .int .i64 ↑p0 :: .int .i64 ↑j :: .slice A k c :: .int .i64 ↑j :: .slice (some ⟨gx, 0, none⟩) j j :: .tuple #[.agg #[.bool (sn (na cx)), .slice C11 (ln (ab (na cx))) (ln (ab (na cx))), .bool (sn (nb cx)), .slice C12 (ln (ab (nb cx))) (ln (ab (nb cx))), .slice C13 (ln (un cx)) (ln (un cx))], .int .i64 0] :: .slice (some ⟨gx, 0, none⟩) j j :: .tuple #[.agg #[.bool (sn (na cx)), .slice C11 (ln (ab (na cx))) (ln (ab (na cx))), .bool (sn (nb cx)), .slice C12 (ln (ab (nb cx))) (ln (ab (nb cx))), .slice C13 (ln (un cx)) (ln (un cx))], .int .i64 0] :: .agg #[.bool (sn (na cx)), .slice C11 (ln (ab (na cx))) (ln (ab (na cx))), .bool (sn (nb cx)), .slice C12 (ln (ab (nb cx))) (ln (ab (nb cx))), .slice C13 (ln (un cx)) (ln (un cx))] :: .int .i64 0 :: .tuple #[.int .i64 ↑rk, .int .i64 0] :: .slice (some ⟨gx, 0, none⟩) j j :: .tuple #[.int .i64 ↑rk, .int .i64 0] :: .int .i64 ↑rk :: .int .i64 0 :: .tuple #[.slice (some ⟨gv, 0, none⟩) j j, .int .i64 0] :: .slice (some ⟨gx, 0, none⟩) j j :: .tuple #[.slice (some ⟨gv, 0, none⟩) j j, .int .i64 0] :: .slice (some ⟨gv, 0, none⟩) j j :: .int .i64 0 :: .int .i64 0 :: .bool false :: .bool false :: .int .i64 0 :: .bool false :: .bool false :: .bool false :: .agg #[.bool (sn (na cx)), .slice C1 (ln (ab (na cx))) (ln (ab (na cx))), .bool (sn (nb cx)), .slice C2 (ln (ab (nb cx))) (ln (ab (nb cx))), .slice C3 (ln (un cx)) (ln (un cx))] :: .bool true :: .int .i64 0 :: .bool true :: .bool false :: .bool false :: .bool false :: .agg #[.bool (sn (na cx)), .slice D1 (ln (ab (na cx))) (ln (ab (na cx))), .bool (sn (nb cx)), .slice D2 (ln (ab (nb cx))) (ln (ab (nb cx))), .slice D3 (ln (un cx)) (ln (un cx))] :: .bool true :: .int .i64 ↑rk :: .int .i64 ↑j :: .bool true :: .bool false :: .bool false :: .slice B lb d :: .int .i64 ↑j :: .slice (some ⟨gy, 0, none⟩) j j :: .int .i64 0 :: .bool false :: undef :: undef :: undef :: undef :: undef :: .tuple #[.slice P j cP, .int .i64 0] :: .slice (some ⟨gx, 0, none⟩) j j :: .slice (some ⟨gv, 0, none⟩) j j :: .tuple #[.slice P j cP, .int .i64 0] :: .slice P j cP :: .int .i64 0 :: .tuple #[.slice Q j cQ, .int .i64 0] :: .slice (some ⟨gv, 0, none⟩) j j :: .slice (some ⟨gx, 0, none⟩) j j :: .tuple #[.slice Q j cQ, .int .i64 0] :: .slice Q j cQ :: .int .i64 0 :: .int .i64 0 :: .bool false :: .bool false :: .int .i64 0 :: .bool false :: .bool false :: .bool false :: .slice P j cP :: .int .i64 ↑j :: .slice E j cE :: .bool true :: .bool false :: .bool false :: .bool false :: .slice Q j cQ :: .slice P j cP :: .bool true :: .bool false :: .bool false :: .slice (some ⟨gy, 0, none⟩) j j :: .int .i64 ↑j :: .int .i64 ↑r :: .bool true :: .pointer (some ⟨gy, r, none⟩) :: .slice (some ⟨gb, 0, none⟩) j Kr :: .tuple #[.slice (some ⟨gs, 0, none⟩) j j, .int .i64 0] :: .slice (some ⟨gx, 0, none⟩) j j :: .slice (some ⟨gb, 0, none⟩) j Kr :: .tuple #[.slice (some ⟨gs, 0, none⟩) j j, .int .i64 0] :: .slice (some ⟨gs, 0, none⟩) j j :: .int .i64 0 :: .int .i64 0 :: .bool false :: .bool false :: .slice (some ⟨gs, 0, none⟩) j j :: .int .i64 ↑j :: .int .i64 ↑j :: .bool false :: .bool false :: .int .i64 ↑j :: .slice (some ⟨gC, 0, none⟩) j j :: .slice (some ⟨gC, 0, none⟩) j j :: .int .i64 ↑j :: .int .i64 ↑j :: .bool false :: u135 :: u136 :: u137 :: u138 :: u139 :: u140 :: u141 :: u142 :: u143 :: u144 :: .tuple #[.slice (some ⟨bb, fo, none⟩) j cY, .int .i64 0] :: .slice (some ⟨gx, 0, none⟩) j j :: .slice (some ⟨gC, 0, none⟩) j j :: .tuple #[.slice (some ⟨bb, fo, none⟩) j cY, .int .i64 0] :: .slice (some ⟨bb, fo, none⟩) j cY :: .int .i64 0 :: .int .i64 0 :: .bool false :: .bool false :: .slice (some ⟨bb, fo, none⟩) j cY :: .int .i64 ↑j :: .int .i64 ↑j :: .bool false :: .bool false :: .slice (some ⟨bb, fo, none⟩) j cY :: .int .i64 ↑j :: .int .i64 ↑i :: .bool true :: .int .i64 ↑i :: V9 0 :: V9 1 :: V9 2 :: V9 3 :: V9 4 :: V9 5 :: V9 6 :: V9 7 :: V9 8 :: V9 9 :: V9 10 :: V9 11 :: V9 12 :: V9 13 :: V9 14 :: V9 15 :: V9 16 :: x17 :: x18 :: x19 :: u184 :: u185 :: undef :: []), []⟩ ∧ OnFix l V9 (fun zz => List.getD [.slice (some ⟨bb, fo, none⟩) j cY, .int .i64 i, .pointer (some ⟨bb, fo + i, none⟩), .slice (some ⟨ga, 0, none⟩) 1 Ka, .int .i64 1, .bool false, .bool false, .slice (some ⟨bb, fo, none⟩) j cY, .int .i64 i, .pointer (some ⟨bb, fo + i, none⟩), .slice (some ⟨ga, 0, none⟩) 1 Ka, .pointer (some ⟨ga, 0, none⟩), .agg #[.bool (sn (na x)), .slice A1 (ln (ab (na x))) (ln (ab (na x))), .bool (sn (nb x)), .slice A2 (ln (ab (nb x))) (ln (ab (nb x))), .slice A3 (ln (un x)) (ln (un x))], .slice (some ⟨gb, 0, none⟩) j Kr, .int .i64 i, .pointer (some ⟨gb, i * 5, none⟩), .agg #[.bool (sn (na y)), .slice B1 (ln (ab (na y))) (ln (ab (na y))), .bool (sn (nb y)), .slice B2 (ln (ab (nb y))) (ln (ab (nb y))), .slice B3 (ln (un y)) (ln (un y))], undef, undef, undef] zz undef) [0, 1, 2, 3, 4, 5, 6, 7, 8, 9, 10, 11, 12, 13, 14, 15, 16] ∧ (Below wr.heap.size wr w' ∧ On l 17 (SlotB w' x17 true)) ∧ On l 17 (x17 = .bool true) ∧ On l 18 (x18 = .bool false) ∧ On l 19 (x19 = .bool false) ∧ l.size = 20) ?_ ?_ _ _ _ _ (by decide) ?_
                  · intro l a' W' i hi hI
                    obtain ⟨V9, x17, x18, x19, rfl, hv, hZ, hP17, hP18, hP19, hz⟩ := hI
                    obtain ⟨hlt, hoff, hpre⟩ := ready_pre hi
                    have hc : i ∈ [0, 1, 2, 3, 4, 5, 6, 7, 8, 9, 10, 11, 12, 13, 14, 15, 16, 17, 18, 19] := (by decide : ∀ i, i < 20 → i ∈ [0, 1, 2, 3, 4, 5, 6, 7, 8, 9, 10, 11, 12, 13, 14, 15, 16, 17, 18, 19]) i hlt
                    simp only [List.mem_cons, List.not_mem_nil, or_false] at hc
                    clear hi hlt
                    rcases hc with rfl | rfl | rfl | rfl | rfl | rfl | rfl | rfl | rfl | rfl | rfl | rfl | rfl | rfl | rfl | rfl | rfl | rfl | rfl | rfl <;> (have hp := hpre _ rfl; simp [Region.binds] at hp; clear hpre)
                    · skip
                      have HV := Lib.hid hv
                      clear hv
                      refine wpOp_go rfl rfl (fun K hK => ?_)
                      go_simp
                      refine hK _ _ ?_
                      exact ⟨_, _, _, _, rfl, HV.out.new (x := .slice (some ⟨bb, fo, none⟩) j cY) rfl, (fun ⟨hb0, y17⟩ => ⟨hb0, y17.keep (by decide)⟩) hZ, hP17.keep (j := 0) (by decide), hP18.keep (j := 0) (by decide), hP19.keep (j := 0) (by decide), by simp [hz]⟩
                    · skip
                      have HV := Lib.hid hv
                      clear hv
                      refine wpOp_go rfl rfl (fun K hK => ?_)
                      go_simp
                      refine hK _ _ ?_
                      exact ⟨_, _, _, _, rfl, HV.out.new (x := .int .i64 i) rfl, (fun ⟨hb0, y17⟩ => ⟨hb0, y17.keep (by decide)⟩) hZ, hP17.keep (j := 1) (by decide), hP18.keep (j := 1) (by decide), hP19.keep (j := 1) (by decide), by simp [hz]⟩
                    · skip
                      have e0 : V9 0 = .slice (some ⟨bb, fo, none⟩) j cY := hv.get 0 (by decide) (by simp [hp])
                      have e1 : V9 1 = .int .i64 i := hv.get 1 (by decide) (by simp [hp])
                      have HV := Lib.hid ((hv.fixE e0 rfl).fixE e1 rfl)
                      clear hv
                      simp only [e0, e1]
                      refine wpOp_go rfl rfl (fun K hK => ?_)
                      go_simp
                      refine hK _ _ ?_
                      exact ⟨_, _, _, _, rfl, HV.out.new (x := .pointer (some ⟨bb, fo + i, none⟩)) rfl, (fun ⟨hb0, y17⟩ => ⟨hb0, y17.keep (by decide)⟩) hZ, hP17.keep (j := 2) (by decide), hP18.keep (j := 2) (by decide), hP19.keep (j := 2) (by decide), by simp [hz]⟩
                    · skip
                      have e2 : V9 2 = .pointer (some ⟨bb, fo + i, none⟩) := hv.get 2 (by decide) (by simp [hp])
                      have HV := Lib.hid (hv.fixE e2 rfl)
                      clear hv
                      simp only [e2]
                      have hY := hZ
                      have z := keepc hY.1 r1 hlA
                      refine wpOp_go rfl rfl (fun K hK => ?_)
                      go_simp
                      refine hK _ _ ?_
                      exact ⟨_, _, _, _, rfl, HV.out.new (x := .slice (some ⟨ga, 0, none⟩) 1 Ka) rfl, (fun ⟨hb0, y17⟩ => ⟨hb0, y17.keep (by decide)⟩) hZ, hP17.keep (j := 3) (by decide), hP18.keep (j := 3) (by decide), hP19.keep (j := 3) (by decide), by simp [hz]⟩
                    · skip
                      have e3 : V9 3 = .slice (some ⟨ga, 0, none⟩) 1 Ka := hv.get 3 (by decide) (by simp [hp])
                      have HV := Lib.hid (hv.fixE e3 rfl)
                      clear hv
                      simp only [e3]
                      refine wpOp_go rfl rfl (fun K hK => ?_)
                      go_simp
                      refine hK _ _ ?_
                      exact ⟨_, _, _, _, rfl, HV.out.new (x := .int .i64 1) rfl, (fun ⟨hb0, y17⟩ => ⟨hb0, y17.keep (by decide)⟩) hZ, hP17.keep (j := 4) (by decide), hP18.keep (j := 4) (by decide), hP19.keep (j := 4) (by decide), by simp [hz]⟩
                    · skip
                      have e4 : V9 4 = .int .i64 1 := hv.get 4 (by decide) (by simp [hp])
                      have HV := Lib.hid (hv.fixE e4 rfl)
                      clear hv
                      simp only [e4]
                      refine wpOp_go rfl rfl (fun K hK => ?_)
                      go_simp
                      refine hK _ _ ?_
                      exact ⟨_, _, _, _, rfl, HV.out.new (x := .bool false) rfl, (fun ⟨hb0, y17⟩ => ⟨hb0, y17.keep (by decide)⟩) hZ, hP17.keep (j := 5) (by decide), hP18.keep (j := 5) (by decide), hP19.keep (j := 5) (by decide), by simp [hz]⟩
                    · skip
                      have e5 : V9 5 = .bool false := hv.get 5 (by decide) (by simp [hp])
                      have HV := Lib.hid (hv.fixE e5 rfl)
                      clear hv
                      simp only [e5]
                      refine wpOp_go rfl rfl (fun K hK => ?_)
                      go_simp
                      refine hK _ _ ?_
                      exact ⟨_, _, _, _, rfl, HV.out.new (x := .bool false) rfl, (fun ⟨hb0, y17⟩ => ⟨hb0, y17.keep (by decide)⟩) hZ, hP17.keep (j := 6) (by decide), hP18.keep (j := 6) (by decide), hP19.keep (j := 6) (by decide), by simp [hz]⟩
                    · skip
                      have e6 : V9 6 = .bool false := hv.get 6 (by decide) (by simp [hp])
                      have HV := Lib.hid (hv.fixE e6 rfl)
                      clear hv
                      simp only [e6]
                      refine wpOp_gg rfl rfl (fun K hK => ?_)
                      go_simp
                      refine hK _ _ ?_
                      exact ⟨_, _, _, _, rfl, HV.out.new (x := .slice (some ⟨bb, fo, none⟩) j cY) rfl, (fun ⟨hb0, y17⟩ => ⟨hb0, y17.keep (by decide)⟩) hZ, hP17.keep (j := 7) (by decide), hP18.keep (j := 7) (by decide), hP19.keep (j := 7) (by decide), by simp [hz]⟩
                    · skip
                      have e6 : V9 6 = .bool false := hv.get 6 (by decide) (by simp [hp])
                      have HV := Lib.hid (hv.fixE e6 rfl)
                      clear hv
                      simp only [e6]
                      refine wpOp_gg rfl rfl (fun K hK => ?_)
                      go_simp
                      refine hK _ _ ?_
                      exact ⟨_, _, _, _, rfl, HV.out.new (x := .int .i64 i) rfl, (fun ⟨hb0, y17⟩ => ⟨hb0, y17.keep (by decide)⟩) hZ, hP17.keep (j := 8) (by decide), hP18.keep (j := 8) (by decide), hP19.keep (j := 8) (by decide), by simp [hz]⟩
                    · skip
                      have e7 : V9 7 = .slice (some ⟨bb, fo, none⟩) j cY := hv.get 7 (by decide) (by simp [hp])
                      have e8 : V9 8 = .int .i64 i := hv.get 8 (by decide) (by simp [hp])
                      have e6 : V9 6 = .bool false := hv.get 6 (by decide) (by simp [hp])
                      have HV := Lib.hid (((hv.fixE e7 rfl).fixE e8 rfl).fixE e6 rfl)
                      clear hv
                      simp only [e7, e8, e6]
                      refine wpOp_gg rfl rfl (fun K hK => ?_)
                      go_simp
                      refine hK _ _ ?_
                      exact ⟨_, _, _, _, rfl, HV.out.new (x := .pointer (some ⟨bb, fo + i, none⟩)) rfl, (fun ⟨hb0, y17⟩ => ⟨hb0, y17.keep (by decide)⟩) hZ, hP17.keep (j := 9) (by decide), hP18.keep (j := 9) (by decide), hP19.keep (j := 9) (by decide), by simp [hz]⟩
                    · skip
                      have e9 : V9 9 = .pointer (some ⟨bb, fo + i, none⟩) := hv.get 9 (by decide) (by simp [hp])
                      have e6 : V9 6 = .bool false := hv.get 6 (by decide) (by simp [hp])
                      have HV := Lib.hid ((hv.fixE e9 rfl).fixE e6 rfl)
                      clear hv
                      simp only [e9, e6]
                      have hY := hZ
                      have z := keepc hY.1 r1 hlA
                      refine wpOp_gg rfl rfl (fun K hK => ?_)
                      go_simp
                      refine hK _ _ ?_
                      exact ⟨_, _, _, _, rfl, HV.out.new (x := .slice (some ⟨ga, 0, none⟩) 1 Ka) rfl, (fun ⟨hb0, y17⟩ => ⟨hb0, y17.keep (by decide)⟩) hZ, hP17.keep (j := 10) (by decide), hP18.keep (j := 10) (by decide), hP19.keep (j := 10) (by decide), by simp [hz]⟩
                    · skip
                      have e10 : V9 10 = .slice (some ⟨ga, 0, none⟩) 1 Ka := hv.get 10 (by decide) (by simp [hp])
                      have e6 : V9 6 = .bool false := hv.get 6 (by decide) (by simp [hp])
                      have HV := Lib.hid ((hv.fixE e10 rfl).fixE e6 rfl)
                      clear hv
                      simp only [e10, e6]
                      refine wpOp_gg rfl rfl (fun K hK => ?_)
                      go_simp
                      refine hK _ _ ?_
                      exact ⟨_, _, _, _, rfl, HV.out.new (x := .pointer (some ⟨ga, 0, none⟩)) rfl, (fun ⟨hb0, y17⟩ => ⟨hb0, y17.keep (by decide)⟩) hZ, hP17.keep (j := 11) (by decide), hP18.keep (j := 11) (by decide), hP19.keep (j := 11) (by decide), by simp [hz]⟩
                    · skip
                      have e11 : V9 11 = .pointer (some ⟨ga, 0, none⟩) := hv.get 11 (by decide) (by simp [hp])
                      have e6 : V9 6 = .bool false := hv.get 6 (by decide) (by simp [hp])
                      have HV := Lib.hid ((hv.fixE e11 rfl).fixE e6 rfl)
                      clear hv
                      simp only [e11, e6]
                      have hY := hZ
                      obtain ⟨z0, z1, z2, z3, z4⟩ := hcs
                      have y0 := keepc hY.1 z0 r2; have y1 := keepc hY.1 z1 r2; have y2 := keepc hY.1 z2 r2; have y3 := keepc hY.1 z3 r2; have y4 := keepc hY.1 z4 r2
                      refine wpOp_gg rfl rfl (fun K hK => ?_)
                      go_simp
                      refine hK _ _ ?_
                      exact ⟨_, _, _, _, rfl, HV.out.new (x := .agg #[.bool (sn (na x)), .slice A1 (ln (ab (na x))) (ln (ab (na x))), .bool (sn (nb x)), .slice A2 (ln (ab (nb x))) (ln (ab (nb x))), .slice A3 (ln (un x)) (ln (un x))]) rfl, (fun ⟨hb0, y17⟩ => ⟨hb0, y17.keep (by decide)⟩) hZ, hP17.keep (j := 12) (by decide), hP18.keep (j := 12) (by decide), hP19.keep (j := 12) (by decide), by simp [hz]⟩
                    · skip
                      have e6 : V9 6 = .bool false := hv.get 6 (by decide) (by simp [hp])
                      have HV := Lib.hid (hv.fixE e6 rfl)
                      clear hv
                      simp only [e6]
                      refine wpOp_gg rfl rfl (fun K hK => ?_)
                      go_simp
                      refine hK _ _ ?_
                      exact ⟨_, _, _, _, rfl, HV.out.new (x := .slice (some ⟨gb, 0, none⟩) j Kr) rfl, (fun ⟨hb0, y17⟩ => ⟨hb0, y17.keep (by decide)⟩) hZ, hP17.keep (j := 13) (by decide), hP18.keep (j := 13) (by decide), hP19.keep (j := 13) (by decide), by simp [hz]⟩
                    · skip
                      have e6 : V9 6 = .bool false := hv.get 6 (by decide) (by simp [hp])
                      have HV := Lib.hid (hv.fixE e6 rfl)
                      clear hv
                      simp only [e6]
                      refine wpOp_gg rfl rfl (fun K hK => ?_)
                      go_simp
                      refine hK _ _ ?_
                      exact ⟨_, _, _, _, rfl, HV.out.new (x := .int .i64 i) rfl, (fun ⟨hb0, y17⟩ => ⟨hb0, y17.keep (by decide)⟩) hZ, hP17.keep (j := 14) (by decide), hP18.keep (j := 14) (by decide), hP19.keep (j := 14) (by decide), by simp [hz]⟩
                    · skip
                      have e13 : V9 13 = .slice (some ⟨gb, 0, none⟩) j Kr := hv.get 13 (by decide) (by simp [hp])
                      have e14 : V9 14 = .int .i64 i := hv.get 14 (by decide) (by simp [hp])
                      have e6 : V9 6 = .bool false := hv.get 6 (by decide) (by simp [hp])
                      have HV := Lib.hid (((hv.fixE e13 rfl).fixE e14 rfl).fixE e6 rfl)
                      clear hv
                      simp only [e13, e14, e6]
                      refine wpOp_gg rfl rfl (fun K hK => ?_)
                      go_simp
                      refine hK _ _ ?_
                      exact ⟨_, _, _, _, rfl, HV.out.new (x := .pointer (some ⟨gb, i * 5, none⟩)) rfl, (fun ⟨hb0, y17⟩ => ⟨hb0, y17.keep (by decide)⟩) hZ, hP17.keep (j := 15) (by decide), hP18.keep (j := 15) (by decide), hP19.keep (j := 15) (by decide), by simp [hz]⟩
                    · skip
                      have e15 : V9 15 = .pointer (some ⟨gb, i * 5, none⟩) := hv.get 15 (by decide) (by simp [hp])
                      have e6 : V9 6 = .bool false := hv.get 6 (by decide) (by simp [hp])
                      have HV := Lib.hid ((hv.fixE e15 rfl).fixE e6 rfl)
                      clear hv
                      simp only [e15, e6]
                      have hY := hZ
                      obtain ⟨z0, z1, z2, z3, z4⟩ := hds
                      have y0 := keepc hY.1 z0 p2; have y1 := keepc hY.1 z1 p2; have y2 := keepc hY.1 z2 p2; have y3 := keepc hY.1 z3 p2; have y4 := keepc hY.1 z4 p2
                      refine wpOp_gg rfl rfl (fun K hK => ?_)
                      go_simp
                      refine hK _ _ ?_
                      exact ⟨_, _, _, _, rfl, HV.out.new (x := .agg #[.bool (sn (na y)), .slice B1 (ln (ab (na y))) (ln (ab (na y))), .bool (sn (nb y)), .slice B2 (ln (ab (nb y))) (ln (ab (nb y))), .slice B3 (ln (un y)) (ln (un y))]) rfl, (fun ⟨hb0, y17⟩ => ⟨hb0, y17.keep (by decide)⟩) hZ, hP17.keep (j := 16) (by decide), hP18.keep (j := 16) (by decide), hP19.keep (j := 16) (by decide), by simp [hz]⟩
                    · skip
                      have e12 : V9 12 = .agg #[.bool (sn (na x)), .slice A1 (ln (ab (na x))) (ln (ab (na x))), .bool (sn (nb x)), .slice A2 (ln (ab (nb x))) (ln (ab (nb x))), .slice A3 (ln (un x)) (ln (un x))] := hv.get 12 (by decide) (by simp [hp])
                      have e16 : V9 16 = .agg #[.bool (sn (na y)), .slice B1 (ln (ab (na y))) (ln (ab (na y))), .bool (sn (nb y)), .slice B2 (ln (ab (nb y))) (ln (ab (nb y))), .slice B3 (ln (un y)) (ln (un y))] := hv.get 16 (by decide) (by simp [hp])
                      have e6 : V9 6 = .bool false := hv.get 6 (by decide) (by simp [hp])
                      have HV := Lib.hid (((hv.fixE e12 rfl).fixE e16 rfl).fixE e6 rfl)
                      clear hv
                      simp only [e12, e16, e6]
                      have hY := hZ
                      refine wpOp_gg rfl rfl (fun K hK => ?_)
                      go_wp2_with (first | (go_at_call 11; refine (same_to x y A1 A2 A3 B1 B2 B3 _ (hN.to hY.1) (hM.to hY.1) ZZ.out.1 ZZ.out.2.1 ZZ.out.2.2).mono ?_; rintro e wf ⟨rfl, hb⟩))
                      try refine hK _ _ ?_
                      exact ⟨_, _, _, _, rfl, HV.out.other (by decide), ⟨hY.1.trans (hb.mono hY.1.size), On.new (rfl)⟩, On.new (rfl), hP18.keep (j := 17) (by decide), hP19.keep (j := 17) (by decide), by simp [hz]⟩
                    · skip
                      have e6 : V9 6 = .bool false := hv.get 6 (by decide) (by simp [hp])
                      have HV := Lib.hid (hv.fixE e6 rfl)
                      clear hv
                      simp only [e6]
                      have e17 := hP17.get (by simp [hp])
                      subst e17
                      refine wpOp_gg rfl rfl (fun K hK => ?_)
                      go_simp
                      refine hK _ _ ?_
                      exact ⟨_, _, _, _, rfl, HV.out.other (by decide), (fun ⟨hb0, y17⟩ => ⟨hb0, y17.keep (by decide)⟩) hZ, hP17.keep (j := 18) (by decide), On.new (rfl), hP19.keep (j := 18) (by decide), by simp [hz]⟩
                    · skip
                      have e6 : V9 6 = .bool false := hv.get 6 (by decide) (by simp [hp])
                      have HV := Lib.hid (hv.fixE e6 rfl)
                      clear hv
                      simp only [e6]
                      have e18 := hP18.get (by simp [hp])
                      subst e18
                      refine wpOp_go rfl rfl (fun K hK => ?_)
                      go_simp
                      refine hK _ _ ?_
                      exact ⟨_, _, _, _, rfl, HV.out.other (by decide), (fun ⟨hb0, y17⟩ => ⟨hb0, y17.keep (by decide)⟩) hZ, hP17.keep (j := 19) (by decide), hP18.keep (j := 19) (by decide), On.new (rfl), by simp [hz]⟩
                  · intro l a' W' hr hI
                    obtain ⟨V9, x17, x18, x19, rfl, hv, hZ, hP17, hP18, hP19, hz⟩ := hI
                    have a0 := not_ready (i := 0) hr hz rfl (by simp [Region.binds])
                    have a1 := not_ready (i := 1) hr hz rfl (by simp [Region.binds, a0])
                    have a2 := not_ready (i := 2) hr hz rfl (by simp [Region.binds, a0, a1])
                    have a3 := not_ready (i := 3) hr hz rfl (by simp [Region.binds, a0, a1, a2])
                    have a4 := not_ready (i := 4) hr hz rfl (by simp [Region.binds, a0, a1, a2, a3])
                    have a5 := not_ready (i := 5) hr hz rfl (by simp [Region.binds, a0, a1, a2, a3, a4])
                    have a6 := not_ready (i := 6) hr hz rfl (by simp [Region.binds, a0, a1, a2, a3, a4, a5])
                    have a7 := not_ready (i := 7) hr hz rfl (by simp [Region.binds, a0, a1, a2, a3, a4, a5, a6])
                    have a8 := not_ready (i := 8) hr hz rfl (by simp [Region.binds, a0, a1, a2, a3, a4, a5, a6, a7])
                    have a9 := not_ready (i := 9) hr hz rfl (by simp [Region.binds, a0, a1, a2, a3, a4, a5, a6, a7, a8])
                    have a10 := not_ready (i := 10) hr hz rfl (by simp [Region.binds, a0, a1, a2, a3, a4, a5, a6, a7, a8, a9])
                    have a11 := not_ready (i := 11) hr hz rfl (by simp [Region.binds, a0, a1, a2, a3, a4, a5, a6, a7, a8, a9, a10])
                    have a12 := not_ready (i := 12) hr hz rfl (by simp [Region.binds, a0, a1, a2, a3, a4, a5, a6, a7, a8, a9, a10, a11])
                    have a13 := not_ready (i := 13) hr hz rfl (by simp [Region.binds, a0, a1, a2, a3, a4, a5, a6, a7, a8, a9, a10, a11, a12])
                    have a14 := not_ready (i := 14) hr hz rfl (by simp [Region.binds, a0, a1, a2, a3, a4, a5, a6, a7, a8, a9, a10, a11, a12, a13])
                    have a15 := not_ready (i := 15) hr hz rfl (by simp [Region.binds, a0, a1, a2, a3, a4, a5, a6, a7, a8, a9, a10, a11, a12, a13, a14])
                    have a16 := not_ready (i := 16) hr hz rfl (by simp [Region.binds, a0, a1, a2, a3, a4, a5, a6, a7, a8, a9, a10, a11, a12, a13, a14, a15])
                    have a17 := not_ready (i := 17) hr hz rfl (by simp [Region.binds, a0, a1, a2, a3, a4, a5, a6, a7, a8, a9, a10, a11, a12, a13, a14, a15, a16])
                    have a18 := not_ready (i := 18) hr hz rfl (by simp [Region.binds, a0, a1, a2, a3, a4, a5, a6, a7, a8, a9, a10, a11, a12, a13, a14, a15, a16, a17])
                    have a19 := not_ready (i := 19) hr hz rfl (by simp [Region.binds, a0, a1, a2, a3, a4, a5, a6, a7, a8, a9, a10, a11, a12, a13, a14, a15, a16, a17, a18])
                    have hY : Below wr.heap.size wr W' ∧ (SlotB W' x17 true) := ⟨hZ.1, hZ.2.get a17⟩
                    have hQ19 := hP19.get a19
                    clear hr hz hv hZ a0 a1 a2 a3 a4 a5 a6 a7 a8 a9 a10 a11 a12 a13 a14 a15 a16 a17 a18 a19 hP17 hP18 hP19
                    rw [hQ19]
                    have HBN := Lib.hid (HBB.out.trans (hY.1.mono HBB.out.size))
                    clear hQ19 hY
                    go_wp2_with fail
                    go_roundw
                    case rel => exact ⟨i + 1, by omega, by go_num, HBN.out⟩
                    case measure => simp [intOf]; omega
                  · exact ⟨fun zz => List.getD [u164, u165, u166, u167, u168, u169, u170, u171, u172, u173, u174, u175, u176, u177, u178, u179, u180, u181, u182, u183] zz undef, _, _, _, rfl, OnFix.start, ⟨((Below.refl _ _).drew), fun h => absurd h (by decide)⟩, fun h => absurd h (by decide), fun h => absurd h (by decide), fun h => absurd h (by decide), by simp⟩
                · obtain rfl : i = j := by omega
                  have HB16 := Lib.hid (HB15.out.trans (hb.mono HB15.out.size))
                  clear hb
                  go_wp2_with fail
                  go_roundw
                  case rel => exact ⟨r + 1, by omega, by go_num, HB16.out⟩
                  case measure => simp [intOf]; omega
      · obtain rfl : r = n := by omega
        have HBE := Lib.hid (HB.out.trans (hb.mono HB.out.size))
        clear hb
        go_wp2_with fail
        refine (awake_any _).mono ?_
        rintro e w16 ⟨rfl, hb⟩
        go_wp2_with fail
        go_ret
        exact ⟨rfl, HBE.out.trans (hb.mono HBE.out.size)⟩
end Go.Proofs.Ytdpjknjlhchmcaa

namespace Go.Proofs.Ytdpjknjlhchmcaa
open Go.ChangeShapes Go.WideShapes Go.ChangeAt Go.RowKit Go.Joins Go.Deep Pl
set_option linter.unusedVariables false
section
variable {H : Type} {enc : TypeId × Value → H} {P : Program}
theorem nat_u8i {z : Int} (h : (Lit.int .u8 z).wf = true) : ∃ n : Nat, z = n ∧ n < 256 := by
  have := bounds_u8 h
  exact ⟨z.toNat, by omega, by omega⟩
/-- A byte, opened. -/
theorem open_byte {W : World} {q : TypeId} {v : Value} {d : DataW H} {ps : List MemPlace} (hq : P.underlying q = some (.int .u8)) (hv : ∃ n, v = .int .u8 n) (h : DataW.Trod enc P W 0 (fun _ => true) true q v d ps) :
    ∃ p0 : Nat, v = .int .u8 p0 ∧ p0 < 256 := by
  obtain ⟨n, rfl⟩ := hv
  obtain ⟨fuel, hf⟩ := h
  have hf' : DataW.trod enc P W 0 (fun _ => true) true fuel q [.int .u8 n] = some (d, ps) := hf
  obtain ⟨z0, e0, _, w0⟩ := DataW.trod_int hq hf'
  simp at e0
  subst e0
  obtain ⟨p0, rfl, h0⟩ := nat_u8i w0
  exact ⟨p0, rfl, h0⟩
end
theorem numInverts_own : ownKnob Try.prog.godebug = none := by kernel_rfl
theorem numInverts_kids : Kids Try.prog (· < Try.prog.types.size) := kids_rows (by kernel_rfl) (by kernel_rfl)
theorem numInverts_rows : ((List.range Try.prog.types.size).all fun t => match Try.prog.underlying t with | some (.slice e) => decide (0 < Try.prog.cellsOf e) | _ => true) = true := by kernel_rfl
theorem numInverts_full : ∀ t e, t < Try.prog.types.size → Try.prog.underlying t = some (.slice e) → 0 < Try.prog.cellsOf e := by
  intro t e ht hu
  have h := List.all_eq_true.1 numInverts_rows t (List.mem_range.2 ht)
  simp only [hu] at h
  simpa using h
theorem numInverts_parB : (Try.f4.params.toList.all fun t => decide (t < Try.prog.types.size)) = true := by kernel_rfl
theorem numInverts_par : ∀ t ∈ Try.f4.params.toList, t < Try.prog.types.size := by
  intro t ht
  simpa using List.all_eq_true.1 numInverts_parB t ht
set_option maxRecDepth 100000 in
theorem numInverts_lifted (os : Os) (started : os.Started) (H : Type) (enc : TypeId × Value → H) :
    ReturnsInHanded {} Try.checked os 4 .any (Rows.numInvertsSpec.pre6 enc Try.prog Try.f4 Rows.numInvertsRow.domain false) (Rows.numInvertsSpec.post enc Try.prog Try.f4 false true false false) := by
  refine returnsInHanded_of_change (C := Try.checked) numInverts_own started (by kernel_rfl) Try.func4
    (ChangeSpec.witness6 (enc := enc) (C := Try.checked) false ⟨#[], #[.slice none 0 0, .slice none 0 0, .int .u8 0], []⟩ 8 (by kernel_rfl) (by kernel_rfl) (by kernel_rfl) (by kernel_rfl)) ?_
  intro W base args ds gs before hval0 hW hcnd _
  have hval : ∀ (j : Nat) t v, Try.f4.params[j]? = some t → args[j]? = some v → Value.okWide Try.prog W .any base t v := hval0
  have hW' := hW
  obtain ⟨p, q, hA0, hV, rfl, hfz, hnd⟩ := hW
  have hA : DataW.TrodAll enc Try.prog W 0 (fun _ => true) true Try.f4.params.toList args.toList ds p := hA0
  rw [Try.params4] at hA hval
  obtain ⟨v0, vs0, d0, ds0, p0, q0, hargs, rfl, rfl, h0, r0⟩ := trodAll_cons hA
  obtain ⟨v1, vs1, d1, ds1, p1, q1, rfl, rfl, rfl, h1, r1⟩ := trodAll_cons r0
  obtain ⟨v2, vs2, d2, ds2, p2, q2, rfl, rfl, rfl, h2, r2⟩ := trodAll_cons r1
  obtain ⟨rfl, rfl, rfl⟩ := trodAll_nil r2
  obtain rfl : args = #[v0, v1, v2] := by cases args; simp_all
  obtain ⟨rfl, rfl⟩ := trodVars_none hV
  have k0 : v0.cells = #[v0] := by obtain ⟨_, _, _, rfl⟩ := okWide_slice Try.underlying22 (hval 0 22 v0 rfl rfl); rfl
  have k1 : v1.cells = #[v1] := by obtain ⟨_, _, _, rfl⟩ := okWide_slice Try.underlying22 (hval 1 22 v1 rfl rfl); rfl
  obtain ⟨A, n, c, X, Y, Z, rfl, hc0, hc1, hT⟩ := open_triples Try.underlying22 Try.underlying59 (by kernel_rfl) ⟨rfl, rfl⟩ ⟨rfl, rfl⟩ ⟨rfl, rfl⟩ Try.underlying2 (by kernel_rfl) k0 h0
  obtain ⟨B, m, d, U, V, T, rfl, hd0, hd1, hU⟩ := open_triples Try.underlying22 Try.underlying59 (by kernel_rfl) ⟨rfl, rfl⟩ ⟨rfl, rfl⟩ ⟨rfl, rfl⟩ Try.underlying2 (by kernel_rfl) k1 h1
  obtain ⟨b0, rfl, hb0⟩ := open_byte Try.underlying5 (okWide_int Try.underlying5 (hval 2 5 v2 rfl rfl)) h2
  refine (inverts_walk W A B n c m d b0 X Y Z U V T hT hU (Nat.le_trans hc0 hc1) (Nat.le_trans hd0 hd1) hb0).mono fun e W' ⟨he, hg⟩ => ?_
  subst he
  simp only [List.append_nil] at hW' hA0
  exact ⟨_, rfl, read_post numInverts_kids numInverts_full numInverts_par hW' hA0 (fun _ _ _ => trodAll_cons_mk (shut_bool Try.underlying4 _) trodAll_mk0) rfl (fun _ => rfl) hg⟩
theorem numInverts_over : Rows.numInvertsRow.holds Try.pinned (OpenSpec.ofChange Rows.numInvertsSpec) :=
  OpenClaim.holds_of_wide 4 Try.f4 rfl rfl rfl rfl rfl rfl rfl ⟨rfl, rfl, rfl, rfl, rfl⟩ rfl rfl rfl rfl rfl (by kernel_rfl) Try.func4 (by kernel_rfl)
    (of_decide_eq_true (by kernel_rfl)) (by unfold Func.isWrapper; first | (rw [if_pos (by decide +kernel)]; kernel_rfl) | (rw [if_neg (by decide +kernel)]; exact ⟨rfl, rfl⟩))
    (fun os started H enc _ => numInverts_lifted os started H enc)
/-- THE STATEMENT. -/
theorem numInverts_holds : Rows.NumInvertsSaid := numInverts_over
#print axioms numInverts_holds
end Go.Proofs.Ytdpjknjlhchmcaa
