/- NumDirected: the walk. The statement Rows.NumDirectedSaid: for every input the law returns true, and each argument reads behind the call as it read before. No condition. -/
import Derived.Test.YtgpmlhpgdalheaaGreatJC
import Derived.Test.YtgpmlhpgdalheaaGreatJS
import Derived.Test.YtgpmlhpgdalheaaGreatLawB
import Derived.Test.YtgpmlhpgdalheaaGreatAwakeF
import Derived.Test.YtgpmlhpgdalheaaGreatRows
import Derived.ProofKit
import Derived.OpenShut
import Derived.Lib.SmallJoins
namespace Go.Proofs.YtgpmlhpgdalheaaGreat
open Go.RowKit Pl Fl
set_option linter.unusedVariables false
set_option linter.unusedSimpArgs false

/-- What the law computes with the words below and above a number. -/
theorem dir_facts {L H k : Nat} {q : Cx} (hk : k = 1074) (D : Dir L H (na q) (nd q) k) :
    (∃ (k1 : Int) (x1 : Cx), (∀ w, Calls Tryz.prog 61 #[.complex .f64 L 0] w (RetNumE w k1 x1)) ∧ sz 80 x1 ∧ ((k1 = 0 ∧ decide (0 < cmpC x1 q.reOf) = false) ∨ (k1 = 1 ∧ L = 18442240474082181120))) ∧
    (∃ (k2 : Int) (x2 : Cx), (∀ w, Calls Tryz.prog 61 #[.complex .f64 H 0] w (RetNumE w k2 x2)) ∧ sz 80 x2 ∧ ((k2 = 0 ∧ decide (cmpC x2 q.reOf < 0) = false) ∨ (k2 = 1 ∧ H = 9218868437227405312))) ∧
    ((∃ x : Cx, (FloatKind.f64.format.order L H == some Ordering.eq) = true ∧ (∀ w, Calls Tryz.prog 61 #[.complex .f64 L 0] w (RetNumE w 0 x)) ∧ sz 80 x ∧ decide (x = q.reOf) = true) ∨
      ((FloatKind.f64.format.order L H == some Ordering.eq) = false ∧ ∃ X, (∀ w, Calls Tryz.prog 68 #[.float .f64 L, .float .f64 9218868437227405312] w fun r w' => r = .returned (.float .f64 X) ∧ w' = w) ∧ (FloatKind.f64.format.order X H == some Ordering.eq) = true)) := by
  have f0 : xE 0 ≠ 2047 := by decide
  have nL : xE L = 2047 → xF L = 0 := fun e => by rw [D.l2 e]; rfl
  have nH : xE H = 2047 → xF H = 0 := fun e => by rw [D.h2 e]; rfl
  refine ⟨?_, ?_, ?_⟩
  · by_cases h : xE L = 2047
    · exact ⟨1, Cx.zero, fun w => complex_bad L 0 D.l1 (by omega) (.inl h) w, sz_int0.mono (by omega), .inr ⟨rfl, D.l2 h⟩⟩
    · exact ⟨0, cx L 0, fun w => complex_fin L 0 D.l1 (by omega) h f0 w, cx_sz L 0, .inl ⟨rfl, dir_le (k_le hk (D.l3 h))⟩⟩
  · by_cases h : xE H = 2047
    · exact ⟨1, Cx.zero, fun w => complex_bad H 0 D.h1 (by omega) (.inl h) w, sz_int0.mono (by omega), .inr ⟨rfl, D.h2 h⟩⟩
    · exact ⟨0, cx H 0, fun w => complex_fin H 0 D.h1 (by omega) h f0 w, cx_sz H 0, .inl ⟨rfl, dir_ge (k_ge hk (D.h3 h))⟩⟩
  · rcases D.e with ⟨h1, h2, h3⟩ | ⟨h1, h2⟩
    · exact .inl ⟨cx L 0, ord_eqk D.l1 D.h1 nL nH (by rw [h1]), fun w => complex_fin L 0 D.l1 (by omega) h2 f0 w, cx_sz L 0, dir_eq (k_eq hk h3)⟩
    · exact .inr ⟨ord_nek D.l1 D.h1 nL nH h1, next_any h2⟩

set_option maxRecDepth 100000 in
set_option maxHeartbeats 4000000 in
theorem numDirected_walk (a b d s : Int) (w : World) (ha : -9223372036854775808 ≤ a ∧ a ≤ 9223372036854775807) (hb : -9223372036854775808 ≤ b ∧ b ≤ 9223372036854775807) (hd : -9223372036854775808 ≤ d ∧ d ≤ 9223372036854775807) (h1 : -32768 ≤ s) (h2 : s ≤ 32767) :
    Calls Tryz.prog 8 #[.agg #[.int .i64 a, .int .i64 b, .int .i64 d], .int .i16 s] w (RetBool w true) := by
  have HS := Lib.hid (fun w => scaled_two a b d s w ha hb hd h1 h2)
  clear ha hb hd h1 h2
  go_enter Tryz.func8, Tryz.ntmps8
  go_wp2_with fail
  obtain ⟨W, hW⟩ : ∃ W : World, W = (w.alloc (.cells #[.int .i64 a, .int .i64 b, .int .i64 d] 23)) := ⟨_, rfl⟩
  have s0_0 : W.cell? ⟨w.heap.size, 0, none⟩ = some (.int .i64 a) := by subst hW; go_simp
  have s0_1 : W.cell? ⟨w.heap.size, 1, none⟩ = some (.int .i64 b) := by subst hW; go_simp
  have s0_2 : W.cell? ⟨w.heap.size, 2, none⟩ = some (.int .i64 d) := by subst hW; go_simp
  have HW : Below w.heap.size w W := by subst hW; exact ((Below.refl w.heap.size w).alloc (Nat.le_refl _) _)
  have l0 : w.heap.size < W.heap.size := by subst hW; simp
  rw [← hW]
  clear hW
  replace HW := Lib.hid HW
  refine (HS.out _).mono ?_
  rintro e w1 ⟨q, X01, X02, X03, Y1, Y2, Y3, c1, c2, c3, zq, rfl, hx, hy, hb⟩
  clear s0_0 s0_1 s0_2 HS
  replace HW := Lib.hid (hstep HW hb)
  clear hb l0
  go_upto_region 2 with fail
  obtain ⟨X, hX⟩ : ∃ X : World, X = (w1.alloc (.cells #[.bool (sn (na q)), .slice X01 (ln (ab (na q))) (ln (ab (na q))), .bool (sn (nb q)), .slice X02 (ln (ab (nb q))) (ln (ab (nb q))), .slice X03 (ln (un q)) (ln (un q))] 30)).alloc (.cells #[.bool (sn (na q)), .slice Y1 (ln (ab (na q))) c1, .bool (sn (nb q)), .slice Y2 (ln (ab (nb q))) c2, .slice Y3 (ln (nd q)) c3] 34) := ⟨_, rfl⟩
  rw [← hX]
  have hb : Below w1.heap.size w1 X := by rw [hX]; exact ((Below.refl _ _).alloc (Nat.le_refl _) _).alloc (by simp) _
  have s0 : X.cell? ⟨w1.heap.size, 0, none⟩ = some (.bool (sn (na q))) := by subst hX; go_simp
  have s1 : X.cell? ⟨w1.heap.size, 1, none⟩ = some (.slice X01 (ln (ab (na q))) (ln (ab (na q)))) := by subst hX; go_simp
  have s2 : X.cell? ⟨w1.heap.size, 2, none⟩ = some (.bool (sn (nb q))) := by subst hX; go_simp
  have s3 : X.cell? ⟨w1.heap.size, 3, none⟩ = some (.slice X02 (ln (ab (nb q))) (ln (ab (nb q)))) := by subst hX; go_simp
  have s4 : X.cell? ⟨w1.heap.size, 4, none⟩ = some (.slice X03 (ln (un q)) (ln (un q))) := by subst hX; go_simp
  have l0 : w1.heap.size < X.heap.size := by rw [hX]; simp <;> omega
  replace hx := hx.to hb
  clear hX hy
  replace HW := Lib.hid (hstep HW hb)
  clear hb
  generalize w1.heap.size = x0 at *
  obtain ⟨k, hk⟩ : ∃ k : Nat, k = 1074 := ⟨_, rfl⟩
  have DD := dir_facts hk (dir_any hk (na q) (nd_ne0 q))
  clear hk k
  obtain ⟨L, hL⟩ : ∃ L, L = srnd 53 (-1074) 1024 (na q) (nd q) 0 := ⟨_, rfl⟩
  obtain ⟨H, hH⟩ : ∃ L, L = srnd 53 (-1074) 1024 (na q) (nd q) 1 := ⟨_, rfl⟩
  rw [← hL, ← hH] at DD
  have RE := Lib.hid (fun w h => re_num q X01 X02 X03 w h (zq.mono (by omega)))
  have zp : sz 7200 q.reOf := sz_re zq
  obtain ⟨p, hp⟩ : ∃ p, p = q.reOf := ⟨_, rfl⟩
  rw [← hp] at RE DD zp
  clear hp
  have HL := Lib.hid hL.symm
  have HH := Lib.hid hH.symm
  clear hL hH
  obtain ⟨⟨k1, x1, cl, z1, f1⟩, ⟨k2, x2, ch, z2, f2⟩, f3⟩ := DD
  replace cl := Lib.hid cl
  replace ch := Lib.hid ch
  replace f1 := Lib.hid f1
  replace f2 := Lib.hid f2
  replace f3 := Lib.hid f3
  replace zq : sz 100000 q := zq.mono (by omega)
  go_wp2_with fail
  refine (RE.out _ (by exact hx)).mono ?_
  rintro e w2 ⟨P1, P2, P3, rfl, hp, hb⟩
  replace s0 := keepc hb s0 l0
  replace s1 := keepc hb s1 l0
  replace s2 := keepc hb s2 l0
  replace s3 := keepc hb s3 l0
  replace s4 := keepc hb s4 l0
  replace l0 := Nat.lt_of_lt_of_le l0 hb.size
  replace hx := hx.to hb
  replace HW := Lib.hid (hstep HW hb)
  clear hb
  clear RE
  go_upto_region 3 with fail
  obtain ⟨w3, hX⟩ : ∃ X : World, X = w2.alloc (.cells #[.bool (sn (na p)), .slice P1 (ln (ab (na p))) (ln (ab (na p))), .bool (sn (nb p)), .slice P2 (ln (ab (nb p))) (ln (ab (nb p))), .slice P3 (ln (un p)) (ln (un p))] 30) := ⟨_, rfl⟩
  rw [← hX]
  have hb : Below w2.heap.size w2 w3 := by rw [hX]; exact (Below.refl _ _).alloc (Nat.le_refl _) _
  have e0 : w3.cell? ⟨w2.heap.size, 0, none⟩ = some (.bool (sn (na p))) := by subst hX; go_simp
  have e1 : w3.cell? ⟨w2.heap.size, 1, none⟩ = some (.slice P1 (ln (ab (na p))) (ln (ab (na p)))) := by subst hX; go_simp
  have e2 : w3.cell? ⟨w2.heap.size, 2, none⟩ = some (.bool (sn (nb p))) := by subst hX; go_simp
  have e3 : w3.cell? ⟨w2.heap.size, 3, none⟩ = some (.slice P2 (ln (ab (nb p))) (ln (ab (nb p)))) := by subst hX; go_simp
  have e4 : w3.cell? ⟨w2.heap.size, 4, none⟩ = some (.slice P3 (ln (un p)) (ln (un p))) := by subst hX; go_simp
  have l1 : w2.heap.size < w3.heap.size := by rw [hX]; simp
  clear hX
  obtain ⟨y0, hg⟩ : ∃ g, g = w2.heap.size := ⟨_, rfl⟩
  rw [← hg] at e0 e1 e2 e3 e4 l1
  rw [← hg]
  clear hg
  replace s0 := keepc hb s0 l0
  replace s1 := keepc hb s1 l0
  replace s2 := keepc hb s2 l0
  replace s3 := keepc hb s3 l0
  replace s4 := keepc hb s4 l0
  replace l0 := Nat.lt_of_lt_of_le l0 hb.size
  replace hx := hx.to hb
  replace hp := hp.to hb
  replace HW := Lib.hid (hstep HW hb)
  clear hb
  go_region_held3 (fun w' => w'.cell? ⟨x0, 0, none⟩ = some (.bool (sn (na q))) ∧ w'.cell? ⟨x0, 1, none⟩ = some (.slice X01 (ln (ab (na q))) (ln (ab (na q)))) ∧ w'.cell? ⟨x0, 2, none⟩ = some (.bool (sn (nb q))) ∧ w'.cell? ⟨x0, 3, none⟩ = some (.slice X02 (ln (ab (nb q))) (ln (ab (nb q)))) ∧ w'.cell? ⟨x0, 4, none⟩ = some (.slice X03 (ln (un q)) (ln (un q)))) (first | with_reducible exact ⟨s0, s1, s2, s3, s4⟩ | with_reducible exact ⟨keepd s0, keepd s1, keepd s2, keepd s3, keepd s4⟩ | exact ⟨s0, s1, s2, s3, s4⟩) (first
    | (have _ := mk1; go_at_call 21; refine (above_any q X01 X02 X03 _ (by exact hx) zq).mono ?_; rintro e w5 ⟨rfl, hb⟩; replace s0 := keepc hb s0 l0; replace s1 := keepc hb s1 l0; replace s2 := keepc hb s2 l0; replace s3 := keepc hb s3 l0; replace s4 := keepc hb s4 l0; replace e0 := keepc hb e0 l1; replace e1 := keepc hb e1 l1; replace e2 := keepc hb e2 l1; replace e3 := keepc hb e3 l1; replace e4 := keepc hb e4 l1; replace l0 := Nat.lt_of_lt_of_le l0 hb.size; replace l1 := Nat.lt_of_lt_of_le l1 hb.size; replace hx := hx.to hb; replace hp := hp.to hb; replace HW := Lib.hid (hstep HW hb); clear hb; have mk2 : True := trivial; clear mk1)
    | (go_at_call 19; refine (below_any q X01 X02 X03 _ (by exact hx) zq).mono ?_; rintro e w4 ⟨rfl, hb⟩; have hb := undrew hb; replace s0 := keepc hb s0 l0; replace s1 := keepc hb s1 l0; replace s2 := keepc hb s2 l0; replace s3 := keepc hb s3 l0; replace s4 := keepc hb s4 l0; replace e0 := keepc hb e0 l1; replace e1 := keepc hb e1 l1; replace e2 := keepc hb e2 l1; replace e3 := keepc hb e3 l1; replace e4 := keepc hb e4 l1; replace l0 := Nat.lt_of_lt_of_le l0 hb.size; replace l1 := Nat.lt_of_lt_of_le l1 hb.size; replace hx := hx.to hb; replace hp := hp.to hb; replace HW := Lib.hid (hstep HW hb); clear hb; have mk1 : True := trivial))
  go_upto_region 4 with fail
  rw [HL.out, HH.out]
  clear HL HH mk2 s0 s1 s2 s3 s4 l0 hx
  go_wp2_with fail
  refine (cl.out _).mono ?_
  rintro e v1a ⟨C1a, C2a, C3a, rfl, hc, hb⟩
  replace e0 := keepc hb e0 l1
  replace e1 := keepc hb e1 l1
  replace e2 := keepc hb e2 l1
  replace e3 := keepc hb e3 l1
  replace e4 := keepc hb e4 l1
  replace l1 := Nat.lt_of_lt_of_le l1 hb.size
  replace hp := hp.to hb
  replace HW := Lib.hid (hstep HW hb)
  clear hb
  go_upto_region 5 with fail
  obtain ⟨v2a, hX⟩ : ∃ X : World, X = v1a.alloc (.cells #[.bool (sn (na x1)), .slice C1a (ln (ab (na x1))) (ln (ab (na x1))), .bool (sn (nb x1)), .slice C2a (ln (ab (nb x1))) (ln (ab (nb x1))), .slice C3a (ln (un x1)) (ln (un x1))] 30) := ⟨_, rfl⟩
  rw [← hX]
  have hb : Below v1a.heap.size v1a v2a := by rw [hX]; exact (Below.refl _ _).alloc (Nat.le_refl _) _
  have u0 : v2a.cell? ⟨v1a.heap.size, 0, none⟩ = some (.bool (sn (na x1))) := by subst hX; go_simp
  have u1 : v2a.cell? ⟨v1a.heap.size, 1, none⟩ = some (.slice C1a (ln (ab (na x1))) (ln (ab (na x1)))) := by subst hX; go_simp
  have u2 : v2a.cell? ⟨v1a.heap.size, 2, none⟩ = some (.bool (sn (nb x1))) := by subst hX; go_simp
  have u3 : v2a.cell? ⟨v1a.heap.size, 3, none⟩ = some (.slice C2a (ln (ab (nb x1))) (ln (ab (nb x1)))) := by subst hX; go_simp
  have u4 : v2a.cell? ⟨v1a.heap.size, 4, none⟩ = some (.slice C3a (ln (un x1)) (ln (un x1))) := by subst hX; go_simp
  have l2 : v1a.heap.size < v2a.heap.size := by rw [hX]; simp
  clear hX
  obtain ⟨z0a, hg⟩ : ∃ g, g = v1a.heap.size := ⟨_, rfl⟩
  rw [← hg] at u0 u1 u2 u3 u4 l2
  rw [← hg]
  clear hg
  replace hc := hc.to hb
  replace e0 := keepc hb e0 l1
  replace e1 := keepc hb e1 l1
  replace e2 := keepc hb e2 l1
  replace e3 := keepc hb e3 l1
  replace e4 := keepc hb e4 l1
  replace l1 := Nat.lt_of_lt_of_le l1 hb.size
  replace hp := hp.to hb
  replace HW := Lib.hid (hstep HW hb)
  clear hb
  go_cut [50] (fun v wx => v = .bool false ∧ Below v2a.heap.size v2a wx)
  case first =>
    rcases f1.out with ⟨hk, t⟩ | ⟨hk, t⟩
    · subst hk
      go_wp2_with fail
      refine (cmp_num x1 p C1a C2a C3a P1 P2 P3 _ (by exact hc) (by exact hp) (z1.mono (by omega)) (zp.mono (by omega))).mono ?_
      rintro e v3 ⟨rfl, hb⟩
      go_wp2_with fail
      go_meet
      exact ⟨rfl, hb⟩
    · subst hk t
      go_wp2_with fail
      refine (isinf_minus _).mono ?_
      rintro e v3 ⟨rfl, hw⟩
      rw [hw]
      go_wp2_with fail
      go_meet
      exact ⟨rfl, Below.refl _ _⟩
  case rest =>
  obtain ⟨hc1, hb⟩ := hcut
  subst hc1
  obtain ⟨v4a, rfl⟩ : ∃ X : World, X = wc := ⟨_, rfl⟩
  replace e0 := keepc hb e0 l1
  replace e1 := keepc hb e1 l1
  replace e2 := keepc hb e2 l1
  replace e3 := keepc hb e3 l1
  replace e4 := keepc hb e4 l1
  replace l1 := Nat.lt_of_lt_of_le l1 hb.size
  replace hp := hp.to hb
  replace HW := Lib.hid (hstep HW hb)
  clear hb
  clear hc u0 u1 u2 u3 u4 l2
  go_wp2_with fail
  refine (ch.out _).mono ?_
  rintro e v1b ⟨C1b, C2b, C3b, rfl, hc, hb⟩
  replace e0 := keepc hb e0 l1
  replace e1 := keepc hb e1 l1
  replace e2 := keepc hb e2 l1
  replace e3 := keepc hb e3 l1
  replace e4 := keepc hb e4 l1
  replace l1 := Nat.lt_of_lt_of_le l1 hb.size
  replace hp := hp.to hb
  replace HW := Lib.hid (hstep HW hb)
  clear hb
  go_upto_region 8 with fail
  obtain ⟨v2b, hX⟩ : ∃ X : World, X = v1b.alloc (.cells #[.bool (sn (na x2)), .slice C1b (ln (ab (na x2))) (ln (ab (na x2))), .bool (sn (nb x2)), .slice C2b (ln (ab (nb x2))) (ln (ab (nb x2))), .slice C3b (ln (un x2)) (ln (un x2))] 30) := ⟨_, rfl⟩
  rw [← hX]
  have hb : Below v1b.heap.size v1b v2b := by rw [hX]; exact (Below.refl _ _).alloc (Nat.le_refl _) _
  have u0 : v2b.cell? ⟨v1b.heap.size, 0, none⟩ = some (.bool (sn (na x2))) := by subst hX; go_simp
  have u1 : v2b.cell? ⟨v1b.heap.size, 1, none⟩ = some (.slice C1b (ln (ab (na x2))) (ln (ab (na x2)))) := by subst hX; go_simp
  have u2 : v2b.cell? ⟨v1b.heap.size, 2, none⟩ = some (.bool (sn (nb x2))) := by subst hX; go_simp
  have u3 : v2b.cell? ⟨v1b.heap.size, 3, none⟩ = some (.slice C2b (ln (ab (nb x2))) (ln (ab (nb x2)))) := by subst hX; go_simp
  have u4 : v2b.cell? ⟨v1b.heap.size, 4, none⟩ = some (.slice C3b (ln (un x2)) (ln (un x2))) := by subst hX; go_simp
  have l2 : v1b.heap.size < v2b.heap.size := by rw [hX]; simp
  clear hX
  obtain ⟨z0b, hg⟩ : ∃ g, g = v1b.heap.size := ⟨_, rfl⟩
  rw [← hg] at u0 u1 u2 u3 u4 l2
  rw [← hg]
  clear hg
  replace hc := hc.to hb
  replace e0 := keepc hb e0 l1
  replace e1 := keepc hb e1 l1
  replace e2 := keepc hb e2 l1
  replace e3 := keepc hb e3 l1
  replace e4 := keepc hb e4 l1
  replace l1 := Nat.lt_of_lt_of_le l1 hb.size
  replace hp := hp.to hb
  replace HW := Lib.hid (hstep HW hb)
  clear hb
  go_cut [73] (fun v wx => v = .bool false ∧ Below v2b.heap.size v2b wx)
  case first =>
    rcases f2.out with ⟨hk, t⟩ | ⟨hk, t⟩
    · subst hk
      go_wp2_with fail
      refine (cmp_num x2 p C1b C2b C3b P1 P2 P3 _ (by exact hc) (by exact hp) (z2.mono (by omega)) (zp.mono (by omega))).mono ?_
      rintro e v3 ⟨rfl, hb⟩
      go_wp2_with fail
      go_meet
      exact ⟨rfl, hb⟩
    · subst hk t
      go_wp2_with fail
      refine (isinf_plus _).mono ?_
      rintro e v3 ⟨rfl, hw⟩
      rw [hw]
      go_wp2_with fail
      go_meet
      exact ⟨rfl, Below.refl _ _⟩
  case rest =>
  obtain ⟨hc1, hb⟩ := hcut
  subst hc1
  obtain ⟨v4b, rfl⟩ : ∃ X : World, X = wc := ⟨_, rfl⟩
  replace e0 := keepc hb e0 l1
  replace e1 := keepc hb e1 l1
  replace e2 := keepc hb e2 l1
  replace e3 := keepc hb e3 l1
  replace e4 := keepc hb e4 l1
  replace l1 := Nat.lt_of_lt_of_le l1 hb.size
  replace hp := hp.to hb
  replace HW := Lib.hid (hstep HW hb)
  clear hb
  clear hc u0 u1 u2 u3 u4 l2
  rcases f3.out with ⟨x, t, ce, zx, tx⟩ | ⟨t, N, cn, tn⟩
  · replace ce := Lib.hid ce
    clear cl ch f1 f2 f3
    go_wp2_with fail
    refine (ce.out _).mono ?_
    rintro e v5 ⟨C1, C2, C3, rfl, hc, hb⟩
    replace e0 := keepc hb e0 l1
    replace e1 := keepc hb e1 l1
    replace e2 := keepc hb e2 l1
    replace e3 := keepc hb e3 l1
    replace e4 := keepc hb e4 l1
    replace l1 := Nat.lt_of_lt_of_le l1 hb.size
    replace hp := hp.to hb
    replace HW := Lib.hid (hstep HW hb)
    clear hb
    go_upto_region 12 with fail
    obtain ⟨v6, hX⟩ : ∃ X : World, X = v5.alloc (.cells #[.bool (sn (na x)), .slice C1 (ln (ab (na x))) (ln (ab (na x))), .bool (sn (nb x)), .slice C2 (ln (ab (nb x))) (ln (ab (nb x))), .slice C3 (ln (un x)) (ln (un x))] 30) := ⟨_, rfl⟩
    rw [← hX]
    have hb : Below v5.heap.size v5 v6 := by rw [hX]; exact (Below.refl _ _).alloc (Nat.le_refl _) _
    have u0 : v6.cell? ⟨v5.heap.size, 0, none⟩ = some (.bool (sn (na x))) := by subst hX; go_simp
    have u1 : v6.cell? ⟨v5.heap.size, 1, none⟩ = some (.slice C1 (ln (ab (na x))) (ln (ab (na x)))) := by subst hX; go_simp
    have u2 : v6.cell? ⟨v5.heap.size, 2, none⟩ = some (.bool (sn (nb x))) := by subst hX; go_simp
    have u3 : v6.cell? ⟨v5.heap.size, 3, none⟩ = some (.slice C2 (ln (ab (nb x))) (ln (ab (nb x)))) := by subst hX; go_simp
    have u4 : v6.cell? ⟨v5.heap.size, 4, none⟩ = some (.slice C3 (ln (un x)) (ln (un x))) := by subst hX; go_simp
    have l2 : v5.heap.size < v6.heap.size := by rw [hX]; simp
    clear hX
    obtain ⟨z1c, hg⟩ : ∃ g, g = v5.heap.size := ⟨_, rfl⟩
    rw [← hg] at u0 u1 u2 u3 u4 l2
    rw [← hg]
    clear hg
    replace hc := hc.to hb
    replace e0 := keepc hb e0 l1
    replace e1 := keepc hb e1 l1
    replace e2 := keepc hb e2 l1
    replace e3 := keepc hb e3 l1
    replace e4 := keepc hb e4 l1
    replace l1 := Nat.lt_of_lt_of_le l1 hb.size
    replace hp := hp.to hb
    replace HW := Lib.hid (hstep HW hb)
    clear hb
    go_wp2_with fail
    refine (same_any x p C1 C2 C3 P1 P2 P3 _ (by exact hc) (by exact hp) (zx.mono (by omega)) (zp.mono (by omega))).mono ?_
    rintro e v7 ⟨rfl, hb⟩
    replace HW := Lib.hid (hstep HW hb)
    clear hb
    go_wp2_with fail
    refine (awake_any _).mono ?_
    rintro e v9 ⟨rfl, hb⟩
    replace HW := Lib.hid (hstep HW hb)
    clear hb
    go_wp2_with fail
    exact bodyPost_ret (v := .bool true) (by simp [results, Tryz.results8, go_sem]) rfl ⟨rfl, HW.out⟩
  · replace cn := Lib.hid cn
    clear cl ch f1 f2 f3
    go_wp2_with fail
    refine (inf_pos _).mono ?_
    rintro e v5 ⟨rfl, hw⟩
    rw [hw]
    go_wp2_with fail
    refine (cn.out _).mono ?_
    rintro e v6 ⟨rfl, hw2⟩
    rw [hw2]
    go_wp2_with fail
    refine (awake_any _).mono ?_
    rintro e v9 ⟨rfl, hb⟩
    replace HW := Lib.hid (hstep HW hb)
    clear hb
    go_wp2_with fail
    exact bodyPost_ret (v := .bool true) (by simp [results, Tryz.results8, go_sem]) rfl ⟨rfl, HW.out⟩


end Go.Proofs.YtgpmlhpgdalheaaGreat

namespace Go.Proofs.YtgpmlhpgdalheaaGreat
open Go.ChangeShapes Go.WideShapes Go.ChangeAt Go.RowKit Go.Joins Pl
set_option linter.unusedVariables false

theorem numDirected_own : ownKnob Tryz.prog.godebug = none := by kernel_rfl
theorem numDirected_cells : Tryz.prog.cellsOf 23 = 3 := by kernel_rfl
section
variable {H : Type} {enc : TypeId × Value → H} {P : Program}
/-- Arguments that hold no place: what is asked behind the call. -/
theorem numDirected_flat {f : Func} {s : ChangeSpec} {apart fresh handsOn again : Bool} {W W' : World} {args : Array Value} {v : Value} {ds gs : List (DataW H)}
    (hW : DataW.Whole enc P f.params.toList s.vars apart W args.toList ds gs [])
    (hres : ∀ (b : Nat) (sp : Nat → Bool) (hd : Bool), DataW.TrodAll enc P W' b sp hd f.resultTypes.toList (v.resultList f.resultTypes.size) (s.fn H (ds ++ gs)).results [])
    (hargs : ∀ sp : Nat → Bool, DataW.TrodAll enc P W' 0 sp true f.params.toList args.toList (s.fn H (ds ++ gs)).args [])
    (hvars : ∀ sp : Nat → Bool, DataW.TrodVars enc P W' sp s.vars (s.fn H (ds ++ gs)).vars [])
    (hk : ∀ may : MemPlace → Prop, W.keptBut W' may)
    (hok : ∀ (j : Nat) (t : TypeId) (r : Value), f.resultTypes[j]? = some t → (v.resultList f.resultTypes.size)[j]? = some r → Value.okWide P W' .any 0 t r) :
    s.post enc P f apart fresh handsOn again W args v W' :=
  ⟨ds, gs, [], [], [], [], hW, hres _ _ _, hargs _, hvars _, hk _, fun _ => ⟨hok, _, _, [], ⟨[], [], trodAll_append (hargs _) (hres _ _ _), hvars _, rfl, (fun b off hp => by cases hp), (fun _ => List.nodup_nil)⟩, (fun p hp _ => by cases hp)⟩⟩
end

theorem numDirected_bounds16 {n : Int} (h : (Lit.int .i16 n).wf = true) : -32768 ≤ n ∧ n ≤ 32767 := by
  simp [Lit.wf, IntKind.min, IntKind.max, IntKind.signed, IntKind.bits] at h
  omega
theorem numDirected_walk_row (a1 a2 a3 s : Int) (wa1 : -9223372036854775808 ≤ a1 ∧ a1 ≤ 9223372036854775807) (wa2 : -9223372036854775808 ≤ a2 ∧ a2 ≤ 9223372036854775807) (wa3 : -9223372036854775808 ≤ a3 ∧ a3 ≤ 9223372036854775807) (ws : -32768 ≤ s ∧ s ≤ 32767) (W : World) :
    Calls Tryz.prog 8 #[.agg #[.int .i64 a1, .int .i64 a2, .int .i64 a3], .int .i16 s] W fun e w' => e = .returned (.bool true) ∧ Below W.heap.size W w' := by
  exact numDirected_walk a1 a2 a3 s W wa1 wa2 wa3 ws.1 ws.2

set_option maxRecDepth 100000 in
theorem numDirected_lifted (os : Os) (started : os.Started) (H : Type) (enc : TypeId × Value → H) :
    ReturnsInHanded {} Tryz.checked os 8 .any (Rows.numDirectedSpec.pre6 enc Tryz.prog Tryz.f8 Rows.numDirectedRow.domain false) (Rows.numDirectedSpec.post enc Tryz.prog Tryz.f8 false true false false) := by
  refine returnsInHanded_of_change (C := Tryz.checked) numDirected_own started (by kernel_rfl) Tryz.func8
    (ChangeSpec.witness6 (enc := enc) (C := Tryz.checked) false ⟨#[], #[.agg #[.int .i64 0, .int .i64 0, .int .i64 0], .int .i16 0], []⟩ 8 (by kernel_rfl) (by kernel_rfl) (by kernel_rfl) (by kernel_rfl)) ?_
  intro W base args ds gs before hval0 hW hcnd _
  have hval : ∀ (j : Nat) t v, Tryz.f8.params[j]? = some t → args[j]? = some v → Value.okWide Tryz.prog W .any base t v := hval0
  have hW' := hW
  obtain ⟨p, q, hA0, hV, rfl, hfz, hnd⟩ := hW
  have hA : DataW.TrodAll enc Tryz.prog W 0 (fun _ => true) true Tryz.f8.params.toList args.toList ds p := hA0
  rw [Tryz.params8] at hA hval
  obtain ⟨v0, vs0, d0, ds0, p0, q0, hargs, rfl, rfl, h0, r0⟩ := trodAll_cons hA
  obtain ⟨v1, vs1, d1, ds1, p1, q1, rfl, rfl, rfl, h1, r1⟩ := trodAll_cons r0
  obtain ⟨rfl, rfl, rfl⟩ := trodAll_nil r1
  obtain rfl : args = #[v0, v1] := by cases args; simp_all
  obtain ⟨rfl, rfl⟩ := trodVars_none hV
  obtain ⟨x0, y0, z0, s0, t0, u0, m0, rfl, rfl, rfl, hs0, ht0, hu0⟩ := open_agg3 Tryz.underlying23 (by kernel_rfl) numDirected_cells (hval 0 23 v0 rfl rfl) h0
  obtain ⟨a1, ex0, rfl, wa1⟩ := DataW.trod_int Tryz.underlying2 hs0
  obtain ⟨a2, ey0, rfl, wa2⟩ := DataW.trod_int Tryz.underlying2 ht0
  obtain ⟨a3, ez0, rfl, wa3⟩ := DataW.trod_int Tryz.underlying2 hu0
  simp at ex0 ey0 ez0
  subst ex0 ey0 ez0
  obtain ⟨s, rfl, rfl, rfl, ws⟩ := open_int Tryz.underlying24 (hval 1 24 v1 rfl rfl) h1
  clear hA0 hval0
  simp only [List.append_nil] at hW'
  refine (numDirected_walk_row a1 a2 a3 s (bounds_i64 wa1) (bounds_i64 wa2) (bounds_i64 wa3) (numDirected_bounds16 ws) W).mono fun e W' ⟨he, hg⟩ => ?_
  subst he
  exact ⟨_, rfl, numDirected_flat hW' (fun _ _ _ => trodAll_cons_mk (shut_bool Tryz.underlying4 _) trodAll_mk0) (fun sp => trodAll_cons_mk (shut_agg3 (y0 := (.lit (.int .i64 a1), [])) (y1 := (.lit (.int .i64 a2), [])) (y2 := (.lit (.int .i64 a3), [])) Tryz.underlying23 (by kernel_rfl) numDirected_cells ⟨1, by simp [DataW.trod, Tryz.underlying2, wa1]⟩ ⟨1, by simp [DataW.trod, Tryz.underlying2, wa2]⟩ ⟨1, by simp [DataW.trod, Tryz.underlying2, wa3]⟩) (trodAll_cons_mk (shut_int Tryz.underlying24 ws) trodAll_mk0)) (fun _ => rfl) (fun may => hg.frame may) (ok_one (by kernel_rfl) rfl (okWide_bool_mk Tryz.underlying4 _))⟩

theorem numDirected_over : Rows.numDirectedRow.holds Tryz.pinned (OpenSpec.ofChange Rows.numDirectedSpec) :=
  OpenClaim.holds_of_wide 8 Tryz.f8 rfl rfl rfl rfl rfl rfl rfl ⟨rfl, rfl, rfl, rfl, rfl⟩ rfl rfl rfl rfl rfl (by kernel_rfl) Tryz.func8 (by kernel_rfl)
    (of_decide_eq_true (by kernel_rfl)) (by unfold Func.isWrapper; first | (rw [if_pos (by decide +kernel)]; kernel_rfl) | (rw [if_neg (by decide +kernel)]; exact ⟨rfl, rfl⟩))
    (fun os started H enc _ => numDirected_lifted os started H enc)

/-- THE STATEMENT. -/
theorem numDirected_holds : Rows.NumDirectedSaid := numDirected_over
#print axioms numDirected_holds
end Go.Proofs.YtgpmlhpgdalheaaGreat
