/- Part 7 of the proof. -/
import Derived.Test.YtdpjknjlhchmcaaNI6
import Derived.Test.YtdpjknjlhchmcaaNI2
import Derived.Test.YtdpjknjlhchmcaaNI4
import Derived.Laws.CopyRow
namespace Go.Proofs.Ytdpjknjlhchmcaa
open Go.RowKit Pl
set_option linter.unusedVariables false
set_option linter.unusedSimpArgs false
/-- A slot holds a number and no error. -/
def SlotNumE (w : World) (u : Value) (q : Cx) : Prop := ∃ A1 A2 A3, u = .tuple #[.agg #[.bool (sn (na q)), .slice A1 (ln (ab (na q))) (ln (ab (na q))), .bool (sn (nb q)), .slice A2 (ln (ab (nb q))) (ln (ab (nb q))), .slice A3 (ln (un q)) (ln (un q))], .int .i64 0] ∧ Num3 w A1 A2 A3 q
theorem SlotNumE.to {w w' : World} {u : Value} {q : Cx} (h : SlotNumE w u q) (hb : Below w.heap.size w w') : SlotNumE w' u q := by
  obtain ⟨A1, A2, A3, e, n⟩ := h; exact ⟨A1, A2, A3, e, n.to hb⟩
theorem HasP.set5o {w : World} {g p o : Nat} {q r : Cx} {A1 A2 A3 : Option Addr} {c : Bool} (h : HasP w g r) (hn : g ≠ p) (k : w.cell? ⟨p, 0, none⟩ = some (.bool c)) : HasP (set5o w p o q A1 A2 A3) g r := by
  obtain ⟨l, ⟨B1, B2, B3, ⟨c0, c1, c2, c3, c4⟩, n⟩, ⟨f0, f1, f2, f3, f4⟩⟩ := h
  refine ⟨by rw [set5o_size]; exact l, ⟨B1, B2, B3, ⟨set5o_cell c0 (.inl hn), set5o_cell c1 (.inl hn), set5o_cell c2 (.inl hn), set5o_cell c3 (.inl hn), set5o_cell c4 (.inl hn)⟩, set5o_num3 n k⟩, ?_⟩
  unfold Proofs.Ytdpjknjlhchmcaa.set5o
  exact ⟨keepof (keepof (keepof (keepof (keepof f0)))), keepof (keepof (keepof (keepof (keepof f1)))), keepof (keepof (keepof (keepof (keepof f2)))), keepof (keepof (keepof (keepof (keepof f3)))), keepof (keepof (keepof (keepof (keepof f4))))⟩
/-- Rows below i are done. -/
def lowTo (c : Nat) (g : Nat → Nat → Cx) (i : Nat) : Nat → Nat → Cx := fun a b => if a < i then low c g a b else g a b
/-- .. and row i up to column j. -/
def lowAt (c : Nat) (g : Nat → Nat → Cx) (i j : Nat) : Nat → Nat → Cx := fun a b => if a < i ∨ (a = i ∧ b < j) then low c g a b else g a b
theorem lowTo_start {c n m : Nat} {g : Nat → Nat → Cx} : ∀ a b, a < n → b < m → lowTo c g (c + 1) a b = g a b := by
  intro a b _ _
  unfold lowTo low
  split
  · rw [if_neg (by omega)]
  · rfl
theorem lowTo_end {c n m : Nat} {g : Nat → Nat → Cx} : ∀ a b, a < n → b < m → low c g a b = lowTo c g n a b := by
  intro a b ha _
  unfold lowTo
  rw [if_pos ha]
theorem lowAt_start {c n m i : Nat} {g : Nat → Nat → Cx} (hi : c < i) : ∀ a b, a < n → b < m → lowAt c g i (c + 1) a b = lowTo c g i a b := by
  intro a b _ _
  unfold lowAt lowTo
  by_cases h : a < i
  · rw [if_pos (.inl h), if_pos h]
  · rw [if_neg h]
    split
    · unfold low; rw [if_neg (by omega)]
    · rfl
theorem lowAt_end {c n m i : Nat} {g : Nat → Nat → Cx} : ∀ a b, a < n → b < m → lowTo c g (i + 1) a b = lowAt c g i m a b := by
  intro a b _ hb
  unfold lowAt lowTo
  by_cases h : a < i + 1
  · rw [if_pos h, if_pos (by omega)]
  · rw [if_neg h, if_neg (by omega)]
theorem lowAt_c {c i j b : Nat} {g : Nat → Nat → Cx} (hi : c < i) : lowAt c g i j c b = g c b := by
  unfold lowAt
  rw [if_pos (.inl hi)]
  exact if_neg (fun h => Nat.lt_irrefl _ h.1)
theorem lowTo_c {c i b : Nat} {g : Nat → Nat → Cx} (hi : c < i) : lowTo c g i c b = g c b := by
  unfold lowTo
  rw [if_pos hi]
  exact if_neg (fun h => Nat.lt_irrefl _ h.1)
theorem lowTo_i {c i b : Nat} {g : Nat → Nat → Cx} : lowTo c g i i b = g i b := if_neg (Nat.lt_irrefl i)
theorem lowAt_i {c i j : Nat} {g : Nat → Nat → Cx} : lowAt c g i j i j = g i j := if_neg (by omega)
theorem lowAt_new {c i j : Nat} {g : Nat → Nat → Cx} (hi : c < i) (hj : c < j) : lowAt c g i (j + 1) i j = (g i j).sub (((g i c).div (g c c)).mul (g c j)) := by
  unfold lowAt
  rw [if_pos (.inr ⟨rfl, Nat.lt_succ_self j⟩)]
  exact if_pos ⟨hi, hj⟩
theorem lowAt_old {c i j a b : Nat} {g : Nat → Nat → Cx} (h : ¬ (a = i ∧ b = j)) : lowAt c g i (j + 1) a b = lowAt c g i j a b := by
  unfold lowAt
  by_cases e : a < i ∨ (a = i ∧ b < j)
  · rw [if_pos e, if_pos (by omega)]
  · rw [if_neg e, if_neg (by omega)]
def RetElim (w0 : World) (z gO n m : Nat) (R : Nat × Int × (Nat → Nat → Cx)) (e : Ending) (w' : World) : Prop := e = .returned (.tuple #[.int .i64 (R.1 : Nat), .int .i64 R.2.1]) ∧ WkP w0 z gO n m R.2.2 w'
set_option maxRecDepth 100000 in
set_option maxHeartbeats 40000000 in
theorem eliminate_any (w0 w : World) (z gO n m c0 K0 : Nat) (f : Nat → Nat → Cx) (hW : WkP w0 z gO n m f w) (hn : n ≤ 100) (hnm : n ≤ m) (hm : m ≤ 1000) (hK : 1 ≤ K0) (hB : bd K0 n + 8 ≤ 137438953472) (hS : ∀ i k, i < n → k < m → sz K0 (f i k)) :
    Calls Try.prog 28 #[.slice (some ⟨gO, 0, none⟩) n c0] w (RetElim w0 z gO n m (elimF n 0 0 f)) := by
  obtain ⟨R, hR⟩ : ∃ R, R = elimF n 0 0 f := ⟨_, rfl⟩
  rw [← hR]
  have HR0 : Hid (elimF (n - 0) 0 0 f = R) := Lib.hid (by rw [Nat.sub_zero]; exact hR.symm)
  have HS0 := Lib.hid (show ∀ i k, i < n → k < m → sz (bd K0 0) (f i k) from hS)
  have HBD := Lib.hid (fun c (h : c < n) => show 6 * bd K0 c + 4 + 8 ≤ 137438953472 from Nat.le_trans (Nat.add_le_add_right (bd_mono K0 (c + 1) n h) 8) hB)
  have HK1 := Lib.hid (fun c => Nat.le_trans hK (bd_le K0 c))
  clear hR hS hB hK
  have hm_Clear : ∀ (k : Nat) (v1 v2 v3 v4 v5 : Value) (w : World), (method (k + 1) 34 (.agg #[v1, v2, v3, v4, v5]) "Clear").run Try.prog w = .ok (17, .agg #[v1, v2, v3, v4, v5]) w := fun _ _ _ _ _ _ _ => by kernel_rfl
  have hm_Div : ∀ (k : Nat) (v1 v2 v3 v4 v5 : Value) (w : World), (method (k + 1) 34 (.agg #[v1, v2, v3, v4, v5]) "Div").run Try.prog w = .ok (40, .agg #[v1, v2, v3, v4, v5]) w := fun _ _ _ _ _ _ _ => by kernel_rfl
  have hm_Mul : ∀ (k : Nat) (v1 v2 v3 v4 v5 : Value) (w : World), (method (k + 1) 34 (.agg #[v1, v2, v3, v4, v5]) "Mul").run Try.prog w = .ok (10, .agg #[v1, v2, v3, v4, v5]) w := fun _ _ _ _ _ _ _ => by kernel_rfl
  have hm_Sub : ∀ (k : Nat) (v1 v2 v3 v4 v5 : Value) (w : World), (method (k + 1) 34 (.agg #[v1, v2, v3, v4, v5]) "Sub").run Try.prog w = .ok (47, .agg #[v1, v2, v3, v4, v5]) w := fun _ _ _ _ _ _ _ => by kernel_rfl
  go_enter Try.func28, Try.ntmps28
  go_upto_region 3 with fail
  go_loopw [4, 13] (fun sv i (wr : World) => ∃ (c s : Nat) (h : Nat → Nat → Cx), c ≤ n ∧ s ≤ c ∧ sv = .int .i64 s ∧ i = .int .i64 c ∧ Hid (elimF (n - c) c s h = R) ∧ Hid (∀ i k, i < n → k < m → sz (bd K0 c) (h i k)) ∧ WkP w0 z gO n m h wr) (fun _ i _ => n - (intOf i).toNat)
  case atStart => exact ⟨0, 0, f, Nat.zero_le _, Nat.le_refl _, rfl, rfl, HR0, HS0, hW⟩
  case round =>
    obtain ⟨c, s, h, hc, hsc, rfl, rfl, HR, HS, hB⟩ := hrel
    clear hW HR0 HS0
    by_cases hlt : c < n
    · obtain ⟨p, hpv⟩ : ∃ p, piv h c (n - c) c = p := ⟨_, rfl⟩
      obtain ⟨hp1, hp2, hp3, hp4⟩ := piv_spec h c (n - c) c
      rw [hpv] at hp1 hp2 hp3 hp4
      replace hp2 : p ≤ n := by omega
      have HP3 := Lib.hid hp3; have HP4 := Lib.hid hp4; have HPV := Lib.hid hpv
      clear hp3 hp4 hpv
      have hB2 : WkP w0 z gO n m h wr := hB
      clear hB
      go_upto_region 6 with fail
      go_loopw [6] (fun q (wr : World) => ∃ k : Nat, c ≤ k ∧ k ≤ p ∧ q = .int .i64 k ∧ WkP w0 z gO n m h wr) (fun q _ => n - (intOf q).toNat)
      case atStart => exact ⟨c, Nat.le_refl _, hp1, rfl, hB2⟩
      case round =>
        obtain ⟨q, hq1, hq2, rfl, hB⟩ := hrel
        clear hB2
        by_cases hqn : q < n
        · have t0 : decide ((q : Int) < (n : Int)) = true := by rw [decide_eq_true_eq]; omega
          obtain ⟨g, kc, r1, r2, _, r4⟩ := hB.row hqn
          obtain ⟨A1, A2, A3, ⟨y0, y1, y2, y3, y4⟩, hN⟩ := r4 c (by omega)
          obtain ⟨x, hx⟩ : ∃ x, x = h q c := ⟨_, rfl⟩
          rw [← hx] at y0 y1 y2 y3 y4 hN
          have zx : sz 1099511627776 x := by rw [hx]; exact (HS.out q c hqn (by omega)).mono (by have := HBD.out c hlt; omega)
          have i1 : (0 : Int) ≤ (q : Int) := by omega
          have i2 : (q : Int) < (n : Int) := by omega
          have i3 : (0 : Int) ≤ (c : Int) := by omega
          have i4 : (c : Int) < (m : Int) := by omega
          have hlO := hB.lt
          have HBB := Lib.hid hB
          have HX := Lib.hid hx
          clear hB r4 hx
          by_cases hz : x = Cx.zero
          · have hqp : q < p := by
              by_cases e : q < p
              · exact e
              · exfalso
                obtain rfl : q = p := by omega
                exact HP4.out (by omega) (by rw [← HX.out]; exact hz)
            have hcl := la13 hz
            clear hz
            go_wp2_with fail
            refine (clear_to x A1 A2 A3 _ hN zx hcl).mono ?_
            rintro e w1 ⟨rfl, hb⟩
            go_wp2_with fail
            go_roundw
            case rel => exact ⟨q + 1, by omega, by omega, by go_num, HBB.out.to hb⟩
            case measure => simp [intOf]; omega
          · have hqp : q = p := by
              by_cases e : q = p
              · exact e
              · exact absurd (HX.out.trans (HP3.out q hq1 (by omega))) hz
            have hcl := la14 hz
            subst hqp
            have HNZ : Hid (h q c ≠ Cx.zero) := Lib.hid (by rw [← HX.out]; exact hz)
            clear hz
            go_wp2_with fail
            refine (clear_to x A1 A2 A3 _ hN zx hcl).mono ?_
            rintro e w1 ⟨rfl, hb⟩
            have t1 : ((q : Int) == (n : Int)) = false := by rw [beq_eq_false_iff_ne]; omega
            replace HBB := Lib.hid (HBB.out.to hb)
            replace hlO := HBB.out.lt
            clear hb r1 r2 y0 y1 y2 y3 y4 hN zx hcl hq2 t0 HX
            go_upto_if 43 with fail
            obtain ⟨s', hs'⟩ : ∃ s', s' = if q = c then s else s + 1 := ⟨_, rfl⟩
            obtain ⟨g', hg'⟩ : ∃ g, g = swp q c h := ⟨_, rfl⟩
            have HG := Lib.hid hg'; have HS' := Lib.hid hs'
            clear hg' hs'
            go_cut [4] from 15 to 123 (fun sv wx => sv = .int .i64 s' ∧ WkP w0 z gO n m g' wx)
            case first =>
              by_cases e : q = c
              · have t2 : ((q : Int) != (c : Int)) = false := by rw [bne_eq_false_iff_eq]; omega
                have e2 : s' = s := by rw [HS'.out, if_pos e]
                have e3 : g' = h := by rw [HG.out, e, swp_self]
                clear e
                go_wp2_with fail
                go_meet
                exact ⟨by rw [e2], by rw [e3]; exact HBB.out⟩
              · have t2 : ((q : Int) != (c : Int)) = true := by rw [bne_iff_ne]; omega
                have e2 : s' = s + 1 := by rw [HS'.out, if_neg e]
                obtain ⟨gp, kp, gc, kc2, hp1', hc1', hsw⟩ := HBB.out.swap hqn hlt e
                rw [← HG.out] at hsw
                clear e
                go_upto_region 11 with fail
                rw [t2]
                refine wp_region_any (by kernel_rfl) ?_
                refine wpAny_inv (fun l a' w' => ∃ V : Nat → Value, a' = ⟨List.toArray (.slice (some ⟨gO, 0, none⟩) n c0 :: undef :: u2 :: u3 :: .int .i64 ↑s :: .int .i64 ↑c :: .int .i64 ↑q :: u7 :: u8 :: u9 :: u10 :: .slice (some ⟨gO, 0, none⟩) n c0 :: .int .i64 ↑n :: .int .i64 ↑c :: .bool true :: .int .i64 ↑c :: .int .i64 ↑c :: .int .i64 ↑q :: .slice (some ⟨gO, 0, none⟩) n c0 :: .int .i64 ↑n :: .bool true :: .bool true :: .slice (some ⟨gO, 0, none⟩) n c0 :: .int .i64 ↑q :: .pointer (some ⟨gO, q, none⟩) :: .slice (some ⟨g, 0, none⟩) m kc :: .int .i64 ↑c :: .pointer (some { block := g, off := c * 5 }) :: .agg #[.bool (sn (na x)), .slice A1 (ln (ab (na x))) (ln (ab (na x))), .bool (sn (nb x)), .slice A2 (ln (ab (nb x))) (ln (ab (nb x))), .slice A3 (ln (un x)) (ln (un x))] :: .iface 34 (.agg #[.bool (sn (na x)), .slice A1 (ln (ab (na x))) (ln (ab (na x))), .bool (sn (nb x)), .slice A2 (ln (ab (nb x))) (ln (ab (nb x))), .slice A3 (ln (un x)) (ln (un x))]) :: .bool true :: .bool false :: .bool false :: u33 :: u34 :: .int .i64 ↑q :: .slice (some ⟨gO, 0, none⟩) n c0 :: .int .i64 ↑n :: .bool false :: u39 :: u40 :: .int .i64 ↑q :: .int .i64 ↑c :: .bool true :: V 0 :: V 1 :: V 2 :: V 3 :: V 4 :: V 5 :: V 6 :: V 7 :: V 8 :: V 9 :: V 10 :: V 11 :: V 12 :: V 14 :: u58 :: u59 :: u60 :: u61 :: u62 :: u63 :: u64 :: u65 :: u66 :: u67 :: u68 :: u69 :: u70 :: u71 :: u72 :: u73 :: u74 :: u75 :: u76 :: u77 :: u78 :: u79 :: u80 :: u81 :: u82 :: u83 :: u84 :: u85 :: u86 :: u87 :: u88 :: u89 :: u90 :: u91 :: u92 :: u93 :: u94 :: u95 :: u96 :: u97 :: u98 :: u99 :: u100 :: u101 :: u102 :: u103 :: u104 :: u105 :: u106 :: u107 :: u108 :: u109 :: u110 :: u111 :: u112 :: u113 :: u114 :: u115 :: u116 :: u117 :: u118 :: u119 :: u120 :: u121 :: u122 :: u123 :: undef :: []), []⟩ ∧ OnFix l V (fun zz => List.getD [.slice (some ⟨gO, 0, none⟩) n c0, .int .i64 q, .slice (some ⟨gO, 0, none⟩) n c0, .int .i64 c, .slice (some ⟨gO, 0, none⟩) n c0, .int .i64 c, .pointer (some ⟨gO, c, none⟩), .slice (some ⟨gc, 0, none⟩) m kc2, .slice (some ⟨gO, 0, none⟩) n c0, .int .i64 q, .pointer (some ⟨gO, q, none⟩), .slice (some ⟨gp, 0, none⟩) m kp, .pointer (some ⟨gO, q, none⟩), undef, .pointer (some ⟨gO, c, none⟩), undef] zz undef) [0, 1, 2, 3, 4, 5, 6, 7, 8, 9, 10, 11, 12, 14] ∧ Off l 13 (Below w1.heap.size w1 w') ∧ On l 13 (Off l 15 (SwpM w0 z gO n m c gp kp g' w')) ∧ On l 15 (WkP w0 z gO n m g' w') ∧ Edg l [(13, 7), (13, 11), (15, 13)] ∧ l.size = 16) ?_ ?_ _ _ _ _ (by decide) ?_
                · intro l a' W' i hi hI
                  obtain ⟨V, rfl, hv, hZ, hM0, hM1, hE, hz⟩ := hI
                  obtain ⟨hlt, hoff, hpre⟩ := ready_pre hi
                  have hc : i ∈ [0, 1, 2, 3, 4, 5, 6, 7, 8, 9, 10, 11, 12, 13, 14, 15] := (by decide : ∀ i, i < 16 → i ∈ [0, 1, 2, 3, 4, 5, 6, 7, 8, 9, 10, 11, 12, 13, 14, 15]) i hlt
                  simp only [List.mem_cons, List.not_mem_nil, or_false] at hc
                  clear hi hlt
                  rcases hc with rfl | rfl | rfl | rfl | rfl | rfl | rfl | rfl | rfl | rfl | rfl | rfl | rfl | rfl | rfl | rfl <;> (have hp := hpre _ rfl; simp [Region.binds] at hp; clear hpre)
                  · skip
                    have HV := Lib.hid hv
                    clear hv
                    refine wpOp_go rfl rfl (fun K hK => ?_)
                    go_simp
                    refine hK _ _ ?_
                    exact ⟨_, rfl, HV.out.new (x := .slice (some ⟨gO, 0, none⟩) n c0) rfl, hZ.keep, (hM0.keep (by decide)).map Off.keep, hM1.keep (by decide), hE.mono (by decide), by simp [hz]⟩
                  · skip
                    have HV := Lib.hid hv
                    clear hv
                    refine wpOp_go rfl rfl (fun K hK => ?_)
                    go_simp
                    refine hK _ _ ?_
                    exact ⟨_, rfl, HV.out.new (x := .int .i64 q) rfl, hZ.keep, (hM0.keep (by decide)).map Off.keep, hM1.keep (by decide), hE.mono (by decide), by simp [hz]⟩
                  · skip
                    have HV := Lib.hid hv
                    clear hv
                    refine wpOp_go rfl rfl (fun K hK => ?_)
                    go_simp
                    refine hK _ _ ?_
                    exact ⟨_, rfl, HV.out.new (x := .slice (some ⟨gO, 0, none⟩) n c0) rfl, hZ.keep, (hM0.keep (by decide)).map Off.keep, hM1.keep (by decide), hE.mono (by decide), by simp [hz]⟩
                  · skip
                    have HV := Lib.hid hv
                    clear hv
                    refine wpOp_go rfl rfl (fun K hK => ?_)
                    go_simp
                    refine hK _ _ ?_
                    exact ⟨_, rfl, HV.out.new (x := .int .i64 c) rfl, hZ.keep, (hM0.keep (by decide)).map Off.keep, hM1.keep (by decide), hE.mono (by decide), by simp [hz]⟩
                  · skip
                    have HV := Lib.hid hv
                    clear hv
                    refine wpOp_go rfl rfl (fun K hK => ?_)
                    go_simp
                    refine hK _ _ ?_
                    exact ⟨_, rfl, HV.out.new (x := .slice (some ⟨gO, 0, none⟩) n c0) rfl, hZ.keep, (hM0.keep (by decide)).map Off.keep, hM1.keep (by decide), hE.mono (by decide), by simp [hz]⟩
                  · skip
                    have HV := Lib.hid hv
                    clear hv
                    refine wpOp_go rfl rfl (fun K hK => ?_)
                    go_simp
                    refine hK _ _ ?_
                    exact ⟨_, rfl, HV.out.new (x := .int .i64 c) rfl, hZ.keep, (hM0.keep (by decide)).map Off.keep, hM1.keep (by decide), hE.mono (by decide), by simp [hz]⟩
                  · skip
                    have e4 : V 4 = .slice (some ⟨gO, 0, none⟩) n c0 := hv.get 4 (by decide) (by simp [hp])
                    have e5 : V 5 = .int .i64 c := hv.get 5 (by decide) (by simp [hp])
                    have HV := Lib.hid ((hv.fixE e4 rfl).fixE e5 rfl)
                    clear hv
                    simp only [e4, e5]
                    refine wpOp_go rfl rfl (fun K hK => ?_)
                    go_simp
                    refine hK _ _ ?_
                    exact ⟨_, rfl, HV.out.new (x := .pointer (some ⟨gO, c, none⟩)) rfl, hZ.keep, (hM0.keep (by decide)).map Off.keep, hM1.keep (by decide), hE.mono (by decide), by simp [hz]⟩
                  · skip
                    have e6 : V 6 = .pointer (some ⟨gO, c, none⟩) := hv.get 6 (by decide) (by simp [hp])
                    have HV := Lib.hid (hv.fixE e6 rfl)
                    clear hv
                    simp only [e6]
                    have hY := hZ.get (fun h => off hoff (hE.get 13 7 (by decide) h))
                    have z := keepc hY hc1' hlO
                    refine wpOp_go rfl rfl (fun K hK => ?_)
                    go_simp
                    refine hK _ _ ?_
                    exact ⟨_, rfl, HV.out.new (x := .slice (some ⟨gc, 0, none⟩) m kc2) rfl, hZ.keep, (hM0.keep (by decide)).map Off.keep, hM1.keep (by decide), hE.mono (by decide), by simp [hz]⟩
                  · skip
                    have HV := Lib.hid hv
                    clear hv
                    refine wpOp_go rfl rfl (fun K hK => ?_)
                    go_simp
                    refine hK _ _ ?_
                    exact ⟨_, rfl, HV.out.new (x := .slice (some ⟨gO, 0, none⟩) n c0) rfl, hZ.keep, (hM0.keep (by decide)).map Off.keep, hM1.keep (by decide), hE.mono (by decide), by simp [hz]⟩
                  · skip
                    have HV := Lib.hid hv
                    clear hv
                    refine wpOp_go rfl rfl (fun K hK => ?_)
                    go_simp
                    refine hK _ _ ?_
                    exact ⟨_, rfl, HV.out.new (x := .int .i64 q) rfl, hZ.keep, (hM0.keep (by decide)).map Off.keep, hM1.keep (by decide), hE.mono (by decide), by simp [hz]⟩
                  · skip
                    have e8 : V 8 = .slice (some ⟨gO, 0, none⟩) n c0 := hv.get 8 (by decide) (by simp [hp])
                    have e9 : V 9 = .int .i64 q := hv.get 9 (by decide) (by simp [hp])
                    have HV := Lib.hid ((hv.fixE e8 rfl).fixE e9 rfl)
                    clear hv
                    simp only [e8, e9]
                    refine wpOp_go rfl rfl (fun K hK => ?_)
                    go_simp
                    refine hK _ _ ?_
                    exact ⟨_, rfl, HV.out.new (x := .pointer (some ⟨gO, q, none⟩)) rfl, hZ.keep, (hM0.keep (by decide)).map Off.keep, hM1.keep (by decide), hE.mono (by decide), by simp [hz]⟩
                  · skip
                    have e10 : V 10 = .pointer (some ⟨gO, q, none⟩) := hv.get 10 (by decide) (by simp [hp])
                    have HV := Lib.hid (hv.fixE e10 rfl)
                    clear hv
                    simp only [e10]
                    have hY := hZ.get (fun h => off hoff (hE.get 13 11 (by decide) h))
                    have z := keepc hY hp1' hlO
                    refine wpOp_go rfl rfl (fun K hK => ?_)
                    go_simp
                    refine hK _ _ ?_
                    exact ⟨_, rfl, HV.out.new (x := .slice (some ⟨gp, 0, none⟩) m kp) rfl, hZ.keep, (hM0.keep (by decide)).map Off.keep, hM1.keep (by decide), hE.mono (by decide), by simp [hz]⟩
                  · skip
                    have e0 : V 0 = .slice (some ⟨gO, 0, none⟩) n c0 := hv.get 0 (by decide) (by simp [hp])
                    have e1 : V 1 = .int .i64 q := hv.get 1 (by decide) (by simp [hp])
                    have HV := Lib.hid ((hv.fixE e0 rfl).fixE e1 rfl)
                    clear hv
                    simp only [e0, e1]
                    refine wpOp_go rfl rfl (fun K hK => ?_)
                    go_simp
                    refine hK _ _ ?_
                    exact ⟨_, rfl, HV.out.new (x := .pointer (some ⟨gO, q, none⟩)) rfl, hZ.keep, (hM0.keep (by decide)).map Off.keep, hM1.keep (by decide), hE.mono (by decide), by simp [hz]⟩
                  · skip
                    have e12 : V 12 = .pointer (some ⟨gO, q, none⟩) := hv.get 12 (by decide) (by simp [hp])
                    have e7 : V 7 = .slice (some ⟨gc, 0, none⟩) m kc2 := hv.get 7 (by decide) (by simp [hp])
                    have e11 : V 11 = .slice (some ⟨gp, 0, none⟩) m kp := hv.get 11 (by decide) (by simp [hp])
                    have HV := Lib.hid (((hv.fixE e12 rfl).fixE e7 rfl).fixE e11 rfl)
                    clear hv
                    simp only [e12, e7, e11]
                    have hY := hZ.get (off hoff)
                    obtain ⟨a1, a2, a3⟩ := hsw W' hY
                    refine wpOp_go rfl rfl (fun K hK => ?_)
                    go_simp
                    refine hK _ _ ?_
                    exact ⟨_, rfl, HV.out.other (by decide), Off.done (by omega), On.new (Off.new (a3)), fun h => absurd (hE.get 15 13 (by decide) (on_ne h (by decide))) (off hoff), hE.step (by simp [hp]), by simp [hz]⟩
                  · skip
                    have e2 : V 2 = .slice (some ⟨gO, 0, none⟩) n c0 := hv.get 2 (by decide) (by simp [hp])
                    have e3 : V 3 = .int .i64 c := hv.get 3 (by decide) (by simp [hp])
                    have HV := Lib.hid ((hv.fixE e2 rfl).fixE e3 rfl)
                    clear hv
                    simp only [e2, e3]
                    refine wpOp_go rfl rfl (fun K hK => ?_)
                    go_simp
                    refine hK _ _ ?_
                    exact ⟨_, rfl, HV.out.new (x := .pointer (some ⟨gO, c, none⟩)) rfl, hZ.keep, (hM0.keep (by decide)).map Off.keep, hM1.keep (by decide), hE.mono (by decide), by simp [hz]⟩
                  · skip
                    have e14 : V 14 = .pointer (some ⟨gO, c, none⟩) := hv.get 14 (by decide) (by simp [hp])
                    have e11 : V 11 = .slice (some ⟨gp, 0, none⟩) m kp := hv.get 11 (by decide) (by simp [hp])
                    have HV := Lib.hid ((hv.fixE e14 rfl).fixE e11 rfl)
                    clear hv
                    simp only [e14, e11]
                    have hY := (hM0.get (by simp [hp])).get (off hoff)
                    obtain ⟨⟨v0, a1⟩, a2, a3⟩ := hY
                    refine wpOp_go rfl rfl (fun K hK => ?_)
                    go_simp
                    refine hK _ _ ?_
                    exact ⟨_, rfl, HV.out.other (by decide), fun h => absurd (on_mono (by simp [hp])) h, (hM0.keep (by decide)).map (fun _ => Off.done (by omega)), On.new (a3), hE.step (by simp [hp]), by simp [hz]⟩
                · intro l a' W' hr hI
                  obtain ⟨V, rfl, hv, hZ, hM0, hM1, hE, hz⟩ := hI
                  have a0 := not_ready (i := 0) hr hz rfl (by simp [Region.binds])
                  have a1 := not_ready (i := 1) hr hz rfl (by simp [Region.binds, a0])
                  have a2 := not_ready (i := 2) hr hz rfl (by simp [Region.binds, a0, a1])
                  have a3 := not_ready (i := 3) hr hz rfl (by simp [Region.binds, a0, a1, a2])
                  have a4 := not_ready (i := 4) hr hz rfl (by simp [Region.binds, a0, a1, a2, a3])
                  have a5 := not_ready (i := 5) hr hz rfl (by simp [Region.binds, a0, a1, a2, a3, a4])
                  have a6 := not_ready (i := 6) hr hz rfl (by simp [Region.binds, a0, a1, a2, a3, a4, a5])
                  have a7 := not_ready (i := 7) hr hz rfl (by simp [Region.binds, a0, a1, a2, a3, a4, a5, a6])
                  have a8 := not_ready (i := 8) hr hz rfl (by simp [Region.binds, a0, a1, a2, a3, a4, a5, a6, a7])
                  have a9 := not_ready (i := 9) hr hz rfl (by simp [Region.binds, a0, a1, a2, a3, a4, a5, a6, a7, a8])
                  have a10 := not_ready (i := 10) hr hz rfl (by simp [Region.binds, a0, a1, a2, a3, a4, a5, a6, a7, a8, a9])
                  have a11 := not_ready (i := 11) hr hz rfl (by simp [Region.binds, a0, a1, a2, a3, a4, a5, a6, a7, a8, a9, a10])
                  have a12 := not_ready (i := 12) hr hz rfl (by simp [Region.binds, a0, a1, a2, a3, a4, a5, a6, a7, a8, a9, a10, a11])
                  have a13 := not_ready (i := 13) hr hz rfl (by simp [Region.binds, a0, a1, a2, a3, a4, a5, a6, a7, a8, a9, a10, a11, a12])
                  have a14 := not_ready (i := 14) hr hz rfl (by simp [Region.binds, a0, a1, a2, a3, a4, a5, a6, a7, a8, a9, a10, a11, a12, a13])
                  have a15 := not_ready (i := 15) hr hz rfl (by simp [Region.binds, a0, a1, a2, a3, a4, a5, a6, a7, a8, a9, a10, a11, a12, a13, a14])
                  have hY := hM1.get a15
                  clear hr hz hv hZ a0 a1 a2 a3 a4 a5 a6 a7 a8 a9 a10 a11 a12 a13 a14 a15 hM0 hM1 hE
                  go_wp2_with fail
                  go_meet
                  exact ⟨by rw [e2]; go_num, hY⟩
                · exact ⟨fun zz => List.getD [u44, u45, u46, u47, u48, u49, u50, u51, u52, u53, u54, u55, u56, undef, u57, undef] zz undef, rfl, OnFix.start, Off.new (((Below.refl _ _).drew)), fun h => absurd h (by decide), fun h => absurd h (by decide), Edg.start, by simp⟩
            case rest =>
              obtain ⟨hc1, hB⟩ := hcut
              subst hc1
              clear HBB
              have HGZ : Hid (g' c c ≠ Cx.zero) := Lib.hid (by rw [HG.out, swp_piv]; exact HNZ.out)
              have HGS : Hid (∀ i k, i < n → k < m → sz (bd K0 c) (g' i k)) := Lib.hid (by rw [HG.out]; exact sz_swp hqn hlt HS.out)
              have HRR : Hid (elimF (n - (c + 1)) (c + 1) s' (low c g') = R) := Lib.hid (by
                rw [← HR.out, elim_next HPV.out (by omega), HS'.out, HG.out]
                rfl)
              have hs1 : s' ≤ c + 1 := by rw [HS'.out]; split <;> omega
              have HWC := Lib.hid (hB.cong (lowTo_start (c := c)))
              clear hB HG HS' HR HS HNZ HPV HP3 HP4 t1 hq1 hqn i1 i2 i3 i4 hlO hp1 hp2
              go_upto_region 14 with fail
              go_loopw [7] (fun r (wr : World) => ∃ i : Nat, c < i ∧ i ≤ n ∧ r = .int .i64 i ∧ WkP w0 z gO n m (lowTo c g' i) wr) (fun r _ => n - (intOf r).toNat)
              case atStart => exact ⟨c + 1, by omega, by omega, by go_num, HWC.out⟩
              case round =>
                obtain ⟨i, hi1, hi2, rfl, hB⟩ := hrel
                clear HWC
                by_cases hin : i < n
                · obtain ⟨gi, ki, r1, r2, _, r4⟩ := hB.row hin
                  obtain ⟨A1, A2, A3, hcs, hN⟩ := r4 c (by omega)
                  obtain ⟨gc, kc, p1, p2, _, p4⟩ := hB.row hlt
                  obtain ⟨B1, B2, B3, hds, hM⟩ := p4 c (by omega)
                  rw [lowTo_i] at hcs hN
                  rw [lowTo_c hi1] at hds hM
                  obtain ⟨x, hx⟩ : ∃ x, x = g' i c := ⟨_, rfl⟩
                  obtain ⟨y, hy⟩ : ∃ y, y = g' c c := ⟨_, rfl⟩
                  rw [← hx] at hcs hN
                  rw [← hy] at hds hM
                  have hBC := HBD.out c hlt
                  have zx : sz (bd K0 c) x := by rw [hx]; exact HGS.out i c hin (by omega)
                  have zy : sz (bd K0 c) y := by rw [hy]; exact HGS.out c c hlt (by omega)
                  have hy0 : y ≠ Cx.zero := by rw [hy]; exact HGZ.out
                  have zF := sz_div2 (HK1.out c) zx zy hy0
                  have i1 : (0 : Int) ≤ (i : Int) := by omega
                  have i2 : (i : Int) < (n : Int) := by omega
                  have i3 : (0 : Int) ≤ (c : Int) := by omega
                  have i4 : (c : Int) < (n : Int) := by omega
                  have i5 : (c : Int) < (m : Int) := by omega
                  have hlO := hB.lt
                  have hlOz := hB.2.1.1
                  have hzw := hB.2.1.2
                  have HBB := Lib.hid hB
                  have ZZ := Lib.hid (And.intro (zx.mono (show bd K0 c ≤ 137438953472 by omega)) (And.intro (zy.mono (show bd K0 c ≤ 137438953472 by omega)) hy0))
                  have ZF := Lib.hid zF
                  have HXY := Lib.hid (And.intro hx hy)
                  clear hB r4 p4 hx hy zx zy hy0 zF hBC
                  go_upto_region 16 with fail
                  refine wp_region_any (by kernel_rfl) ?_
                  refine wpAny_inv (fun l a' w' => ∃ V2 : Nat → Value, ∃ x15 x16 x17 x18 x19 x21 : Value, a' = ⟨List.toArray (.slice (some ⟨gO, 0, none⟩) n c0 :: undef :: u2 :: u3 :: .int .i64 ↑s' :: .int .i64 ↑c :: .int .i64 ↑q :: .int .i64 ↑i :: x19 :: x21 :: u10 :: .slice (some ⟨gO, 0, none⟩) n c0 :: .int .i64 ↑n :: .int .i64 ↑c :: .bool true :: u15 :: u16 :: u17 :: u18 :: u19 :: u20 :: u21 :: u22 :: u23 :: u24 :: u25 :: u26 :: u27 :: u28 :: u29 :: u30 :: u31 :: u32 :: u33 :: u34 :: u35 :: u36 :: u37 :: u38 :: u39 :: u40 :: u41 :: u42 :: u43 :: u44 :: u45 :: u46 :: u47 :: u48 :: u49 :: u50 :: u51 :: u52 :: u53 :: u54 :: u55 :: u56 :: u57 :: u58 :: u59 :: .int .i64 ↑c :: .int .i64 (↑c + 1) :: .int .i64 ↑i :: .slice (some ⟨gO, 0, none⟩) n c0 :: .int .i64 ↑n :: .bool true :: u66 :: u67 :: x16 :: V2 0 :: V2 1 :: V2 2 :: V2 3 :: V2 4 :: V2 5 :: V2 6 :: V2 7 :: V2 8 :: V2 9 :: V2 10 :: V2 11 :: V2 12 :: V2 13 :: V2 14 :: x15 :: x17 :: x18 :: u87 :: u88 :: u89 :: u90 :: u91 :: u92 :: u93 :: u94 :: u95 :: u96 :: u97 :: u98 :: u99 :: u100 :: u101 :: u102 :: u103 :: u104 :: u105 :: u106 :: u107 :: u108 :: u109 :: u110 :: u111 :: u112 :: u113 :: u114 :: u115 :: u116 :: u117 :: u118 :: u119 :: u120 :: u121 :: u122 :: u123 :: undef :: []), []⟩ ∧ OnFix l V2 (fun zz => List.getD [.slice (some ⟨gO, 0, none⟩) n c0, .int .i64 i, .pointer (some ⟨gO, i, none⟩), .slice (some ⟨gi, 0, none⟩) m ki, .int .i64 c, .pointer (some ⟨gi, c * 5, none⟩), .agg #[.bool (sn (na x)), .slice A1 (ln (ab (na x))) (ln (ab (na x))), .bool (sn (nb x)), .slice A2 (ln (ab (nb x))) (ln (ab (nb x))), .slice A3 (ln (un x)) (ln (un x))], .iface 34 (.agg #[.bool (sn (na x)), .slice A1 (ln (ab (na x))) (ln (ab (na x))), .bool (sn (nb x)), .slice A2 (ln (ab (nb x))) (ln (ab (nb x))), .slice A3 (ln (un x)) (ln (un x))]), .slice (some ⟨gO, 0, none⟩) n c0, .int .i64 c, .pointer (some ⟨gO, c, none⟩), .slice (some ⟨gc, 0, none⟩) m kc, .int .i64 c, .pointer (some ⟨gc, c * 5, none⟩), .agg #[.bool (sn (na y)), .slice B1 (ln (ab (na y))) (ln (ab (na y))), .bool (sn (nb y)), .slice B2 (ln (ab (nb y))) (ln (ab (nb y))), .slice B3 (ln (un y)) (ln (un y))], undef, undef, undef, undef, undef, undef, undef] zz undef) [0, 1, 2, 3, 4, 5, 6, 7, 8, 9, 10, 11, 12, 13, 14] ∧ Off l 20 (Below wr.heap.size wr w' ∧ On l 15 (SlotNumE w' x15 (x.div y)) ∧ On l 16 (SlotNumE w' x16 (x.div y)) ∧ On l 17 (SlotNum w' x17 (x.div y)) ∧ On l 19 (AtV wr.heap.size w' x19)) ∧ On l 20 (∃ gs, x19 = .pointer (some ⟨gs, 0, none⟩) ∧ wr.heap.size ≤ gs ∧ HasP w' gs (x.div y) ∧ Below wr.heap.size wr w') ∧ On l 16 (∃ A, x16 = .tuple #[A, .int .i64 0]) ∧ Edg l [(20, 17), (17, 16), (16, 15), (15, 7), (7, 6), (6, 5), (5, 3), (15, 14), (14, 13), (13, 11), (20, 19)] ∧ l.size = 22) ?_ ?_ _ _ _ _ (by decide) ?_
                  · intro l a' W' i hi hI
                    obtain ⟨V2, x15, x16, x17, x18, x19, x21, rfl, hv, hZ, hM0, hP16, hE, hz⟩ := hI
                    obtain ⟨hlt, hoff, hpre⟩ := ready_pre hi
                    have hc : i ∈ [0, 1, 2, 3, 4, 5, 6, 7, 8, 9, 10, 11, 12, 13, 14, 15, 16, 17, 18, 19, 20, 21] := (by decide : ∀ i, i < 22 → i ∈ [0, 1, 2, 3, 4, 5, 6, 7, 8, 9, 10, 11, 12, 13, 14, 15, 16, 17, 18, 19, 20, 21]) i hlt
                    simp only [List.mem_cons, List.not_mem_nil, or_false] at hc
                    clear hi hlt
                    rcases hc with rfl | rfl | rfl | rfl | rfl | rfl | rfl | rfl | rfl | rfl | rfl | rfl | rfl | rfl | rfl | rfl | rfl | rfl | rfl | rfl | rfl | rfl <;> (have hp := hpre _ rfl; simp [Region.binds] at hp; clear hpre)
                    · skip
                      have HV := Lib.hid hv
                      clear hv
                      refine wpOp_go rfl rfl (fun K hK => ?_)
                      go_simp
                      refine hK _ _ ?_
                      exact ⟨_, _, _, _, _, _, _, rfl, HV.out.new (x := .slice (some ⟨gO, 0, none⟩) n c0) rfl, hZ.keep.map (fun ⟨hb0, y15, y16, y17, y19⟩ => ⟨hb0, y15.keep (by decide), y16.keep (by decide), y17.keep (by decide), y19.keep (by decide)⟩), hM0.keep (by decide), hP16.keep (by decide), hE.mono (by decide), by simp [hz]⟩
                    · skip
                      have HV := Lib.hid hv
                      clear hv
                      refine wpOp_go rfl rfl (fun K hK => ?_)
                      go_simp
                      refine hK _ _ ?_
                      exact ⟨_, _, _, _, _, _, _, rfl, HV.out.new (x := .int .i64 i) rfl, hZ.keep.map (fun ⟨hb0, y15, y16, y17, y19⟩ => ⟨hb0, y15.keep (by decide), y16.keep (by decide), y17.keep (by decide), y19.keep (by decide)⟩), hM0.keep (by decide), hP16.keep (by decide), hE.mono (by decide), by simp [hz]⟩
                    · skip
                      have e0 : V2 0 = .slice (some ⟨gO, 0, none⟩) n c0 := hv.get 0 (by decide) (by simp [hp])
                      have e1 : V2 1 = .int .i64 i := hv.get 1 (by decide) (by simp [hp])
                      have HV := Lib.hid ((hv.fixE e0 rfl).fixE e1 rfl)
                      clear hv
                      simp only [e0, e1]
                      refine wpOp_go rfl rfl (fun K hK => ?_)
                      go_simp
                      refine hK _ _ ?_
                      exact ⟨_, _, _, _, _, _, _, rfl, HV.out.new (x := .pointer (some ⟨gO, i, none⟩)) rfl, hZ.keep.map (fun ⟨hb0, y15, y16, y17, y19⟩ => ⟨hb0, y15.keep (by decide), y16.keep (by decide), y17.keep (by decide), y19.keep (by decide)⟩), hM0.keep (by decide), hP16.keep (by decide), hE.mono (by decide), by simp [hz]⟩
                    · skip
                      have e2 : V2 2 = .pointer (some ⟨gO, i, none⟩) := hv.get 2 (by decide) (by simp [hp])
                      have HV := Lib.hid (hv.fixE e2 rfl)
                      clear hv
                      simp only [e2]
                      have hY := hZ.get (fun h => off hoff (hE.get 5 3 (by decide) (hE.get 6 5 (by decide) (hE.get 7 6 (by decide) (hE.get 15 7 (by decide) (hE.get 16 15 (by decide) (hE.get 17 16 (by decide) (hE.get 20 17 (by decide) h))))))))
                      have z := keepc hY.1 r1 hlO
                      refine wpOp_go rfl rfl (fun K hK => ?_)
                      go_simp
                      refine hK _ _ ?_
                      exact ⟨_, _, _, _, _, _, _, rfl, HV.out.new (x := .slice (some ⟨gi, 0, none⟩) m ki) rfl, hZ.keep.map (fun ⟨hb0, y15, y16, y17, y19⟩ => ⟨hb0, y15.keep (by decide), y16.keep (by decide), y17.keep (by decide), y19.keep (by decide)⟩), hM0.keep (by decide), hP16.keep (by decide), hE.mono (by decide), by simp [hz]⟩
                    · skip
                      have HV := Lib.hid hv
                      clear hv
                      refine wpOp_go rfl rfl (fun K hK => ?_)
                      go_simp
                      refine hK _ _ ?_
                      exact ⟨_, _, _, _, _, _, _, rfl, HV.out.new (x := .int .i64 c) rfl, hZ.keep.map (fun ⟨hb0, y15, y16, y17, y19⟩ => ⟨hb0, y15.keep (by decide), y16.keep (by decide), y17.keep (by decide), y19.keep (by decide)⟩), hM0.keep (by decide), hP16.keep (by decide), hE.mono (by decide), by simp [hz]⟩
                    · skip
                      have e3 : V2 3 = .slice (some ⟨gi, 0, none⟩) m ki := hv.get 3 (by decide) (by simp [hp])
                      have e4 : V2 4 = .int .i64 c := hv.get 4 (by decide) (by simp [hp])
                      have HV := Lib.hid ((hv.fixE e3 rfl).fixE e4 rfl)
                      clear hv
                      simp only [e3, e4]
                      refine wpOp_go rfl rfl (fun K hK => ?_)
                      go_simp
                      refine hK _ _ ?_
                      exact ⟨_, _, _, _, _, _, _, rfl, HV.out.new (x := .pointer (some ⟨gi, c * 5, none⟩)) rfl, hZ.keep.map (fun ⟨hb0, y15, y16, y17, y19⟩ => ⟨hb0, y15.keep (by decide), y16.keep (by decide), y17.keep (by decide), y19.keep (by decide)⟩), hM0.keep (by decide), hP16.keep (by decide), hE.step (by simp [hp]), by simp [hz]⟩
                    · skip
                      have e5 : V2 5 = .pointer (some ⟨gi, c * 5, none⟩) := hv.get 5 (by decide) (by simp [hp])
                      have HV := Lib.hid (hv.fixE e5 rfl)
                      clear hv
                      simp only [e5]
                      have hY := hZ.get (fun h => off hoff (hE.get 7 6 (by decide) (hE.get 15 7 (by decide) (hE.get 16 15 (by decide) (hE.get 17 16 (by decide) (hE.get 20 17 (by decide) h))))))
                      obtain ⟨z0, z1, z2, z3, z4⟩ := hcs
                      have y0 := keepc hY.1 z0 r2; have y1 := keepc hY.1 z1 r2; have y2 := keepc hY.1 z2 r2; have y3 := keepc hY.1 z3 r2; have y4 := keepc hY.1 z4 r2
                      refine wpOp_go rfl rfl (fun K hK => ?_)
                      go_simp
                      refine hK _ _ ?_
                      exact ⟨_, _, _, _, _, _, _, rfl, HV.out.new (x := .agg #[.bool (sn (na x)), .slice A1 (ln (ab (na x))) (ln (ab (na x))), .bool (sn (nb x)), .slice A2 (ln (ab (nb x))) (ln (ab (nb x))), .slice A3 (ln (un x)) (ln (un x))]) rfl, hZ.keep.map (fun ⟨hb0, y15, y16, y17, y19⟩ => ⟨hb0, y15.keep (by decide), y16.keep (by decide), y17.keep (by decide), y19.keep (by decide)⟩), hM0.keep (by decide), hP16.keep (by decide), hE.step (by simp [hp]), by simp [hz]⟩
                    · skip
                      have e6 : V2 6 = .agg #[.bool (sn (na x)), .slice A1 (ln (ab (na x))) (ln (ab (na x))), .bool (sn (nb x)), .slice A2 (ln (ab (nb x))) (ln (ab (nb x))), .slice A3 (ln (un x)) (ln (un x))] := hv.get 6 (by decide) (by simp [hp])
                      have HV := Lib.hid (hv.fixE e6 rfl)
                      clear hv
                      simp only [e6]
                      refine wpOp_go rfl rfl (fun K hK => ?_)
                      go_simp
                      refine hK _ _ ?_
                      exact ⟨_, _, _, _, _, _, _, rfl, HV.out.new (x := .iface 34 (.agg #[.bool (sn (na x)), .slice A1 (ln (ab (na x))) (ln (ab (na x))), .bool (sn (nb x)), .slice A2 (ln (ab (nb x))) (ln (ab (nb x))), .slice A3 (ln (un x)) (ln (un x))])) rfl, hZ.keep.map (fun ⟨hb0, y15, y16, y17, y19⟩ => ⟨hb0, y15.keep (by decide), y16.keep (by decide), y17.keep (by decide), y19.keep (by decide)⟩), hM0.keep (by decide), hP16.keep (by decide), hE.step (by simp [hp]), by simp [hz]⟩
                    · skip
                      have HV := Lib.hid hv
                      clear hv
                      refine wpOp_go rfl rfl (fun K hK => ?_)
                      go_simp
                      refine hK _ _ ?_
                      exact ⟨_, _, _, _, _, _, _, rfl, HV.out.new (x := .slice (some ⟨gO, 0, none⟩) n c0) rfl, hZ.keep.map (fun ⟨hb0, y15, y16, y17, y19⟩ => ⟨hb0, y15.keep (by decide), y16.keep (by decide), y17.keep (by decide), y19.keep (by decide)⟩), hM0.keep (by decide), hP16.keep (by decide), hE.mono (by decide), by simp [hz]⟩
                    · skip
                      have HV := Lib.hid hv
                      clear hv
                      refine wpOp_go rfl rfl (fun K hK => ?_)
                      go_simp
                      refine hK _ _ ?_
                      exact ⟨_, _, _, _, _, _, _, rfl, HV.out.new (x := .int .i64 c) rfl, hZ.keep.map (fun ⟨hb0, y15, y16, y17, y19⟩ => ⟨hb0, y15.keep (by decide), y16.keep (by decide), y17.keep (by decide), y19.keep (by decide)⟩), hM0.keep (by decide), hP16.keep (by decide), hE.mono (by decide), by simp [hz]⟩
                    · skip
                      have e8 : V2 8 = .slice (some ⟨gO, 0, none⟩) n c0 := hv.get 8 (by decide) (by simp [hp])
                      have e9 : V2 9 = .int .i64 c := hv.get 9 (by decide) (by simp [hp])
                      have HV := Lib.hid ((hv.fixE e8 rfl).fixE e9 rfl)
                      clear hv
                      simp only [e8, e9]
                      refine wpOp_go rfl rfl (fun K hK => ?_)
                      go_simp
                      refine hK _ _ ?_
                      exact ⟨_, _, _, _, _, _, _, rfl, HV.out.new (x := .pointer (some ⟨gO, c, none⟩)) rfl, hZ.keep.map (fun ⟨hb0, y15, y16, y17, y19⟩ => ⟨hb0, y15.keep (by decide), y16.keep (by decide), y17.keep (by decide), y19.keep (by decide)⟩), hM0.keep (by decide), hP16.keep (by decide), hE.mono (by decide), by simp [hz]⟩
                    · skip
                      have e10 : V2 10 = .pointer (some ⟨gO, c, none⟩) := hv.get 10 (by decide) (by simp [hp])
                      have HV := Lib.hid (hv.fixE e10 rfl)
                      clear hv
                      simp only [e10]
                      have hY := hZ.get (fun h => off hoff (hE.get 13 11 (by decide) (hE.get 14 13 (by decide) (hE.get 15 14 (by decide) (hE.get 16 15 (by decide) (hE.get 17 16 (by decide) (hE.get 20 17 (by decide) h)))))))
                      have z := keepc hY.1 p1 hlO
                      refine wpOp_go rfl rfl (fun K hK => ?_)
                      go_simp
                      refine hK _ _ ?_
                      exact ⟨_, _, _, _, _, _, _, rfl, HV.out.new (x := .slice (some ⟨gc, 0, none⟩) m kc) rfl, hZ.keep.map (fun ⟨hb0, y15, y16, y17, y19⟩ => ⟨hb0, y15.keep (by decide), y16.keep (by decide), y17.keep (by decide), y19.keep (by decide)⟩), hM0.keep (by decide), hP16.keep (by decide), hE.mono (by decide), by simp [hz]⟩
                    · skip
                      have HV := Lib.hid hv
                      clear hv
                      refine wpOp_go rfl rfl (fun K hK => ?_)
                      go_simp
                      refine hK _ _ ?_
                      exact ⟨_, _, _, _, _, _, _, rfl, HV.out.new (x := .int .i64 c) rfl, hZ.keep.map (fun ⟨hb0, y15, y16, y17, y19⟩ => ⟨hb0, y15.keep (by decide), y16.keep (by decide), y17.keep (by decide), y19.keep (by decide)⟩), hM0.keep (by decide), hP16.keep (by decide), hE.mono (by decide), by simp [hz]⟩
                    · skip
                      have e11 : V2 11 = .slice (some ⟨gc, 0, none⟩) m kc := hv.get 11 (by decide) (by simp [hp])
                      have e12 : V2 12 = .int .i64 c := hv.get 12 (by decide) (by simp [hp])
                      have HV := Lib.hid ((hv.fixE e11 rfl).fixE e12 rfl)
                      clear hv
                      simp only [e11, e12]
                      refine wpOp_go rfl rfl (fun K hK => ?_)
                      go_simp
                      refine hK _ _ ?_
                      exact ⟨_, _, _, _, _, _, _, rfl, HV.out.new (x := .pointer (some ⟨gc, c * 5, none⟩)) rfl, hZ.keep.map (fun ⟨hb0, y15, y16, y17, y19⟩ => ⟨hb0, y15.keep (by decide), y16.keep (by decide), y17.keep (by decide), y19.keep (by decide)⟩), hM0.keep (by decide), hP16.keep (by decide), hE.step (by simp [hp]), by simp [hz]⟩
                    · skip
                      have e13 : V2 13 = .pointer (some ⟨gc, c * 5, none⟩) := hv.get 13 (by decide) (by simp [hp])
                      have HV := Lib.hid (hv.fixE e13 rfl)
                      clear hv
                      simp only [e13]
                      have hY := hZ.get (fun h => off hoff (hE.get 15 14 (by decide) (hE.get 16 15 (by decide) (hE.get 17 16 (by decide) (hE.get 20 17 (by decide) h)))))
                      obtain ⟨z0, z1, z2, z3, z4⟩ := hds
                      have y0 := keepc hY.1 z0 p2; have y1 := keepc hY.1 z1 p2; have y2 := keepc hY.1 z2 p2; have y3 := keepc hY.1 z3 p2; have y4 := keepc hY.1 z4 p2
                      refine wpOp_go rfl rfl (fun K hK => ?_)
                      go_simp
                      refine hK _ _ ?_
                      exact ⟨_, _, _, _, _, _, _, rfl, HV.out.new (x := .agg #[.bool (sn (na y)), .slice B1 (ln (ab (na y))) (ln (ab (na y))), .bool (sn (nb y)), .slice B2 (ln (ab (nb y))) (ln (ab (nb y))), .slice B3 (ln (un y)) (ln (un y))]) rfl, hZ.keep.map (fun ⟨hb0, y15, y16, y17, y19⟩ => ⟨hb0, y15.keep (by decide), y16.keep (by decide), y17.keep (by decide), y19.keep (by decide)⟩), hM0.keep (by decide), hP16.keep (by decide), hE.step (by simp [hp]), by simp [hz]⟩
                    · skip
                      have e7 : V2 7 = .iface 34 (.agg #[.bool (sn (na x)), .slice A1 (ln (ab (na x))) (ln (ab (na x))), .bool (sn (nb x)), .slice A2 (ln (ab (nb x))) (ln (ab (nb x))), .slice A3 (ln (un x)) (ln (un x))]) := hv.get 7 (by decide) (by simp [hp])
                      have e14 : V2 14 = .agg #[.bool (sn (na y)), .slice B1 (ln (ab (na y))) (ln (ab (na y))), .bool (sn (nb y)), .slice B2 (ln (ab (nb y))) (ln (ab (nb y))), .slice B3 (ln (un y)) (ln (un y))] := hv.get 14 (by decide) (by simp [hp])
                      have HV := Lib.hid ((hv.fixE e7 rfl).fixE e14 rfl)
                      clear hv
                      simp only [e7, e14]
                      have hY := hZ.get (fun h => off hoff (hE.get 16 15 (by decide) (hE.get 17 16 (by decide) (hE.get 20 17 (by decide) h))))
                      refine wpOp_go rfl rfl (fun K hK => ?_)
                      go_wp2_with (first | (go_at_call 40; refine (div_num0 x y A1 A2 A3 B1 B2 B3 _ (hN.to hY.1) (hM.to hY.1) ZZ.out.1 ZZ.out.2.1 ZZ.out.2.2).mono ?_; rintro e w3 ⟨E1, E2, E3, rfl, hNN, hb⟩))
                      try refine hK _ _ ?_
                      exact ⟨_, _, _, _, _, _, _, rfl, HV.out.other (by decide), Off.new ⟨hY.1.trans (hb.mono hY.1.size), On.new (⟨E1, E2, E3, rfl, hNN⟩), ((hY.2.2.1).keep (by decide)).map (fun h => h.to hb), ((hY.2.2.2.1).keep (by decide)).map (fun h => h.to hb), ((hY.2.2.2.2).keep (by decide)).map (fun h => h.to hb)⟩, fun h => absurd (hE.get 16 15 (by decide) (hE.get 17 16 (by decide) (hE.get 20 17 (by decide) (on_ne h (by decide))))) (off hoff), hP16.keep (by decide), hE.step (by simp [hp]), by simp [hz]⟩
                    · skip
                      have HV := Lib.hid hv
                      clear hv
                      have hY := hZ.get (fun h => off hoff (hE.get 17 16 (by decide) (hE.get 20 17 (by decide) h)))
                      obtain ⟨E1, E2, E3, e0, hNN⟩ := hY.2.1.get (by simp [hp])
                      subst e0
                      refine wpOp_go rfl rfl (fun K hK => ?_)
                      go_simp
                      refine hK _ _ ?_
                      exact ⟨_, _, _, _, _, _, _, rfl, HV.out.other (by decide), Off.new ⟨hY.1, ((hY.2.1).keep (by decide)).map (fun h => h), On.new (⟨E1, E2, E3, rfl, hNN⟩), ((hY.2.2.2.1).keep (by decide)).map (fun h => h), ((hY.2.2.2.2).keep (by decide)).map (fun h => h)⟩, fun h => absurd (hE.get 17 16 (by decide) (hE.get 20 17 (by decide) (on_ne h (by decide)))) (off hoff), On.new (⟨_, rfl⟩), hE.step (by simp [hp]), by simp [hz]⟩
                    · skip
                      have HV := Lib.hid hv
                      clear hv
                      have hY := hZ.get (fun h => off hoff (hE.get 20 17 (by decide) h))
                      obtain ⟨E1, E2, E3, e0, hNN⟩ := hY.2.2.1.get (by simp [hp])
                      subst e0
                      refine wpOp_go rfl rfl (fun K hK => ?_)
                      go_simp
                      refine hK _ _ ?_
                      exact ⟨_, _, _, _, _, _, _, rfl, HV.out.other (by decide), Off.new ⟨hY.1, ((hY.2.1).keep (by decide)).map (fun h => h), ((hY.2.2.1).keep (by decide)).map (fun h => h), On.new (⟨E1, E2, E3, rfl, hNN⟩), ((hY.2.2.2.2).keep (by decide)).map (fun h => h)⟩, fun h => absurd (hE.get 20 17 (by decide) (on_ne h (by decide))) (off hoff), hP16.keep (by decide), hE.step (by simp [hp]), by simp [hz]⟩
                    · skip
                      have HV := Lib.hid hv
                      clear hv
                      obtain ⟨E0, e0⟩ := hP16.get (by simp [hp])
                      subst e0
                      refine wpOp_go rfl rfl (fun K hK => ?_)
                      go_simp
                      refine hK _ _ ?_
                      exact ⟨_, _, _, _, _, _, _, rfl, HV.out.other (by decide), hZ.keep.map (fun ⟨hb0, y15, y16, y17, y19⟩ => ⟨hb0, y15.keep (by decide), y16.keep (by decide), y17.keep (by decide), y19.keep (by decide)⟩), hM0.keep (by decide), hP16.keep (by decide), hE.mono (by decide), by simp [hz]⟩
                    · skip
                      have HV := Lib.hid hv
                      clear hv
                      have hY := hZ.get (fun h => off hoff (hE.get 20 19 (by decide) h))
                      refine wpOp_go rfl rfl (fun K hK => ?_)
                      go_simp
                      refine hK _ _ ?_
                      exact ⟨_, _, _, _, _, _, _, rfl, HV.out.other (by decide), Off.new ⟨hY.1.trans (((Below.refl _ _).alloc (Nat.le_refl _) _).mono hY.1.size), ((hY.2.1).keep (by decide)).map (fun h => h.to ((Below.refl _ _).alloc (Nat.le_refl _) _)), ((hY.2.2.1).keep (by decide)).map (fun h => h.to ((Below.refl _ _).alloc (Nat.le_refl _) _)), ((hY.2.2.2.1).keep (by decide)).map (fun h => h.to ((Below.refl _ _).alloc (Nat.le_refl _) _)), On.new (AtV.new hY.1.size)⟩, fun h => absurd (hE.get 20 19 (by decide) (on_ne h (by decide))) (off hoff), hP16.keep (by decide), hE.mono (by decide), by simp [hz]⟩
                    · skip
                      have HV := Lib.hid hv
                      clear hv
                      have hY := hZ.get (off hoff)
                      obtain ⟨E1, E2, E3, e1, hNN⟩ := hY.2.2.2.1.get (by simp [hp])
                      subst e1
                      obtain ⟨gs, e2, hgs, hv5⟩ := hY.2.2.2.2.get (by simp [hp])
                      subst e2
                      have hv6 := hv5
                      obtain ⟨_, ⟨cc, u1, u2, u3, u4, d0, d1, d2, d3, d4⟩, ⟨f0, f1, f2, f3, f4⟩⟩ := hv5
                      refine wpOp_go rfl rfl (fun K hK => ?_)
                      go_simp
                      refine hK _ _ ?_
                      obtain ⟨XX, hX⟩ : ∃ XX : World, XX = set5 W' gs (x.div y) E1 E2 E3 := ⟨_, rfl⟩
                      have hw : set5 W' gs (x.div y) E1 E2 E3 = XX := hX.symm
                      unfold set5 at hw
                      rw [hw]
                      subst hX
                      exact ⟨_, _, _, _, _, _, _, rfl, HV.out.other (by decide), Off.done (by omega), On.new (⟨gs, rfl, hgs, hv6.putP hNN, set5_below hY.1 hgs⟩), hP16.keep (by decide), hE.step (by simp [hp]), by simp [hz]⟩
                    · skip
                      have HV := Lib.hid hv
                      clear hv
                      refine wpOp_go rfl rfl (fun K hK => ?_)
                      go_simp
                      refine hK _ _ ?_
                      exact ⟨_, _, _, _, _, _, _, rfl, HV.out.other (by decide), hZ.keep.map (fun ⟨hb0, y15, y16, y17, y19⟩ => ⟨hb0, y15.keep (by decide), y16.keep (by decide), y17.keep (by decide), y19.keep (by decide)⟩), hM0.keep (by decide), hP16.keep (by decide), hE.mono (by decide), by simp [hz]⟩
                  · intro l a' W' hr hI
                    obtain ⟨V2, x15, x16, x17, x18, x19, x21, rfl, hv, hZ, hM0, hP16, hE, hz⟩ := hI
                    have a0 := not_ready (i := 0) hr hz rfl (by simp [Region.binds])
                    have a1 := not_ready (i := 1) hr hz rfl (by simp [Region.binds, a0])
                    have a2 := not_ready (i := 2) hr hz rfl (by simp [Region.binds, a0, a1])
                    have a3 := not_ready (i := 3) hr hz rfl (by simp [Region.binds, a0, a1, a2])
                    have a4 := not_ready (i := 4) hr hz rfl (by simp [Region.binds, a0, a1, a2, a3])
                    have a5 := not_ready (i := 5) hr hz rfl (by simp [Region.binds, a0, a1, a2, a3, a4])
                    have a6 := not_ready (i := 6) hr hz rfl (by simp [Region.binds, a0, a1, a2, a3, a4, a5])
                    have a7 := not_ready (i := 7) hr hz rfl (by simp [Region.binds, a0, a1, a2, a3, a4, a5, a6])
                    have a8 := not_ready (i := 8) hr hz rfl (by simp [Region.binds, a0, a1, a2, a3, a4, a5, a6, a7])
                    have a9 := not_ready (i := 9) hr hz rfl (by simp [Region.binds, a0, a1, a2, a3, a4, a5, a6, a7, a8])
                    have a10 := not_ready (i := 10) hr hz rfl (by simp [Region.binds, a0, a1, a2, a3, a4, a5, a6, a7, a8, a9])
                    have a11 := not_ready (i := 11) hr hz rfl (by simp [Region.binds, a0, a1, a2, a3, a4, a5, a6, a7, a8, a9, a10])
                    have a12 := not_ready (i := 12) hr hz rfl (by simp [Region.binds, a0, a1, a2, a3, a4, a5, a6, a7, a8, a9, a10, a11])
                    have a13 := not_ready (i := 13) hr hz rfl (by simp [Region.binds, a0, a1, a2, a3, a4, a5, a6, a7, a8, a9, a10, a11, a12])
                    have a14 := not_ready (i := 14) hr hz rfl (by simp [Region.binds, a0, a1, a2, a3, a4, a5, a6, a7, a8, a9, a10, a11, a12, a13])
                    have a15 := not_ready (i := 15) hr hz rfl (by simp [Region.binds, a0, a1, a2, a3, a4, a5, a6, a7, a8, a9, a10, a11, a12, a13, a14])
                    have a16 := not_ready (i := 16) hr hz rfl (by simp [Region.binds, a0, a1, a2, a3, a4, a5, a6, a7, a8, a9, a10, a11, a12, a13, a14, a15])
                    have a17 := not_ready (i := 17) hr hz rfl (by simp [Region.binds, a0, a1, a2, a3, a4, a5, a6, a7, a8, a9, a10, a11, a12, a13, a14, a15, a16])
                    have a18 := not_ready (i := 18) hr hz rfl (by simp [Region.binds, a0, a1, a2, a3, a4, a5, a6, a7, a8, a9, a10, a11, a12, a13, a14, a15, a16, a17])
                    have a19 := not_ready (i := 19) hr hz rfl (by simp [Region.binds, a0, a1, a2, a3, a4, a5, a6, a7, a8, a9, a10, a11, a12, a13, a14, a15, a16, a17, a18])
                    have a20 := not_ready (i := 20) hr hz rfl (by simp [Region.binds, a0, a1, a2, a3, a4, a5, a6, a7, a8, a9, a10, a11, a12, a13, a14, a15, a16, a17, a18, a19])
                    have a21 := not_ready (i := 21) hr hz rfl (by simp [Region.binds, a0, a1, a2, a3, a4, a5, a6, a7, a8, a9, a10, a11, a12, a13, a14, a15, a16, a17, a18, a19, a20])
                    have hY := hM0.get a20
                    clear hr hz hv hZ a0 a1 a2 a3 a4 a5 a6 a7 a8 a9 a10 a11 a12 a13 a14 a15 a16 a17 a18 a19 a20 a21 hM0 hP16 hE
                    obtain ⟨gs, rfl, hgs, hvs, hbs⟩ := hY
                    obtain ⟨Fq, hFq⟩ : ∃ q, q = x.div y := ⟨_, rfl⟩
                    rw [← hFq] at hvs ZF
                    have HFQ : Hid (Fq = (g' i c).div (g' c c)) := Lib.hid (by rw [hFq, HXY.out.1, HXY.out.2])
                    have hWL := (HBB.out.to hbs).cong (lowAt_start (n := n) (m := m) (g := g') hi1)
                    have hgz : z ≤ gs := Nat.le_trans hzw hgs
                    clear hFq HXY HBB hcs hN hds hM ZZ hbs hgs r1 r2 p1 p2 hlO hzw
                    go_upto_region 18 with fail
                    go_loopw [10] (fun q (wr : World) => ∃ j : Nat, c < j ∧ j ≤ m ∧ q = .int .i64 j ∧ HasP wr gs Fq ∧ WkP w0 z gO n m (lowAt c g' i j) wr) (fun q _ => m - (intOf q).toNat)
                    case atStart => exact ⟨c + 1, by omega, by omega, by go_num, hvs, hWL⟩
                    case round =>
                      obtain ⟨j, hj1, hj2, rfl, hvj, hBj⟩ := hrel
                      clear hvs hWL
                      by_cases hjm : j < m
                      · obtain ⟨gi, ki, r1, r2, r3, hpe, hput⟩ := hBj.put hin hjm
                        obtain ⟨gc, kc, p1, p2, _, p4⟩ := hBj.row hlt
                        obtain ⟨B1, B2, B3, hds, hM⟩ := p4 j hjm
                        rw [lowAt_i] at hpe
                        rw [lowAt_c hi1] at hds hM
                        obtain ⟨A1, A2, A3, hcs, hN⟩ := hpe
                        obtain ⟨S1, S2, S3, hsc, hsn⟩ := hvj.slot
                        have hls := hvj.1
                        obtain ⟨x, hx⟩ : ∃ x, x = g' i j := ⟨_, rfl⟩
                        obtain ⟨y, hy⟩ : ∃ y, y = g' c j := ⟨_, rfl⟩
                        rw [← hx] at hcs hN
                        rw [← hy] at hds hM
                        have hBC := HBD.out c hlt
                        have zx : sz (bd K0 c) x := by rw [hx]; exact HGS.out i j hin hjm
                        have zy : sz (bd K0 c) y := by rw [hy]; exact HGS.out c j hlt hjm
                        have zf := ZF.out
                        have zm := sz_mul2 zf zy
                        have ZZ := Lib.hid (And.intro (zx.mono (show _ ≤ 137438953472 by omega)) (And.intro (zy.mono (show _ ≤ 137438953472 by omega)) (And.intro (zf.mono (show _ ≤ 137438953472 by omega)) (zm.mono (show _ ≤ 137438953472 by omega)))))
                        have hnew : lowAt c g' i (j + 1) i j = x.sub (Fq.mul y) := by rw [lowAt_new hi1 hj1, hx, hy, HFQ.out]
                        have HNEW := Lib.hid hnew
                        have i1 : (0 : Int) ≤ (i : Int) := by omega
                        have i2 : (i : Int) < (n : Int) := by omega
                        have i3 : (0 : Int) ≤ (c : Int) := by omega
                        have i4 : (c : Int) < (n : Int) := by omega
                        have i5 : (0 : Int) ≤ (j : Int) := by omega
                        have i6 : (j : Int) < (m : Int) := by omega
                        have hlO := hBj.lt
                        have hne : gs ≠ gi := by omega
                        clear hBj p4 hx hy zx zy zf zm hnew hBC
                        go_upto_region 20 with fail
                        refine wp_region_any (by kernel_rfl) ?_
                        refine wpAny_inv (fun l a' w' => ∃ V3 : Nat → Value, ∃ x22 x23 : Value, a' = ⟨List.toArray (.slice (some ⟨gO, 0, none⟩) n c0 :: undef :: u2 :: u3 :: .int .i64 ↑s' :: .int .i64 ↑c :: .int .i64 ↑q :: .int .i64 ↑i :: .pointer (some ⟨gs, 0, none⟩) :: x21 :: .int .i64 ↑j :: .slice (some ⟨gO, 0, none⟩) n c0 :: .int .i64 ↑n :: .int .i64 ↑c :: .bool true :: u15 :: u16 :: u17 :: u18 :: u19 :: u20 :: u21 :: u22 :: u23 :: u24 :: u25 :: u26 :: u27 :: u28 :: u29 :: u30 :: u31 :: u32 :: u33 :: u34 :: u35 :: u36 :: u37 :: u38 :: u39 :: u40 :: u41 :: u42 :: u43 :: u44 :: u45 :: u46 :: u47 :: u48 :: u49 :: u50 :: u51 :: u52 :: u53 :: u54 :: u55 :: u56 :: u57 :: u58 :: u59 :: .int .i64 ↑c :: .int .i64 (↑c + 1) :: .int .i64 ↑i :: .slice (some ⟨gO, 0, none⟩) n c0 :: .int .i64 ↑n :: .bool true :: u66 :: u67 :: x16 :: V2 0 :: V2 1 :: V2 2 :: V2 3 :: V2 4 :: V2 5 :: V2 6 :: V2 7 :: V2 8 :: V2 9 :: V2 10 :: V2 11 :: V2 12 :: V2 13 :: V2 14 :: x15 :: x17 :: x18 :: .int .i64 ↑c :: .int .i64 (↑c + 1) :: .int .i64 ↑j :: .slice (some ⟨gO, 0, none⟩) n c0 :: .int .i64 ↑i :: .pointer (some ⟨gO, i, none⟩) :: .slice (some ⟨gi, 0, none⟩) m ki :: .int .i64 ↑m :: .bool true :: u96 :: u97 :: V3 0 :: V3 1 :: V3 2 :: V3 3 :: V3 4 :: V3 5 :: V3 6 :: V3 7 :: V3 8 :: V3 9 :: V3 10 :: V3 11 :: V3 12 :: V3 13 :: V3 14 :: V3 15 :: V3 16 :: V3 17 :: V3 18 :: V3 19 :: V3 20 :: V3 21 :: x22 :: x23 :: V3 24 :: u123 :: undef :: []), []⟩ ∧ OnFix l V3 (fun zz => List.getD [.slice (some ⟨gO, 0, none⟩) n c0, .int .i64 i, .pointer (some ⟨gO, i, none⟩), .slice (some ⟨gi, 0, none⟩) m ki, .int .i64 j, .slice (some ⟨gO, 0, none⟩) n c0, .int .i64 i, .pointer (some ⟨gO, i, none⟩), .slice (some ⟨gi, 0, none⟩) m ki, .int .i64 j, .pointer (some ⟨gi, j * 5, none⟩), .agg #[.bool (sn (na x)), .slice A1 (ln (ab (na x))) (ln (ab (na x))), .bool (sn (nb x)), .slice A2 (ln (ab (nb x))) (ln (ab (nb x))), .slice A3 (ln (un x)) (ln (un x))], .iface 34 (.agg #[.bool (sn (na x)), .slice A1 (ln (ab (na x))) (ln (ab (na x))), .bool (sn (nb x)), .slice A2 (ln (ab (nb x))) (ln (ab (nb x))), .slice A3 (ln (un x)) (ln (un x))]), .agg #[.bool (sn (na Fq)), .slice S1 (ln (ab (na Fq))) (ln (ab (na Fq))), .bool (sn (nb Fq)), .slice S2 (ln (ab (nb Fq))) (ln (ab (nb Fq))), .slice S3 (ln (un Fq)) (ln (un Fq))], .iface 34 (.agg #[.bool (sn (na Fq)), .slice S1 (ln (ab (na Fq))) (ln (ab (na Fq))), .bool (sn (nb Fq)), .slice S2 (ln (ab (nb Fq))) (ln (ab (nb Fq))), .slice S3 (ln (un Fq)) (ln (un Fq))]), .slice (some ⟨gO, 0, none⟩) n c0, .int .i64 c, .pointer (some ⟨gO, c, none⟩), .slice (some ⟨gc, 0, none⟩) m kc, .int .i64 j, .pointer (some ⟨gc, j * 5, none⟩), .agg #[.bool (sn (na y)), .slice B1 (ln (ab (na y))) (ln (ab (na y))), .bool (sn (nb y)), .slice B2 (ln (ab (nb y))) (ln (ab (nb y))), .slice B3 (ln (un y)) (ln (un y))], undef, undef, .pointer (some ⟨gi, j * 5, none⟩), undef] zz undef) [0, 1, 2, 3, 4, 5, 6, 7, 8, 9, 10, 11, 12, 13, 14, 15, 16, 17, 18, 19, 20, 21, 24] ∧ Off l 25 (Below wr.heap.size wr w' ∧ On l 22 (SlotNum w' x22 (Fq.mul y)) ∧ On l 23 (SlotNum w' x23 (x.sub (Fq.mul y)))) ∧ On l 25 (HasP w' gs Fq ∧ WkP w0 z gO n m (lowAt c g' i (j + 1)) w') ∧ Edg l [(25, 24), (24, 3), (25, 23), (23, 12), (12, 11), (11, 10), (10, 8), (23, 22), (22, 14), (14, 13), (22, 21), (21, 20), (20, 18)] ∧ l.size = 26) ?_ ?_ _ _ _ _ (by decide) ?_
                        · intro l a' W' i hi hI
                          obtain ⟨V3, x22, x23, rfl, hv, hZ, hM0, hE, hz⟩ := hI
                          obtain ⟨hlt, hoff, hpre⟩ := ready_pre hi
                          have hc : i ∈ [0, 1, 2, 3, 4, 5, 6, 7, 8, 9, 10, 11, 12, 13, 14, 15, 16, 17, 18, 19, 20, 21, 22, 23, 24, 25] := (by decide : ∀ i, i < 26 → i ∈ [0, 1, 2, 3, 4, 5, 6, 7, 8, 9, 10, 11, 12, 13, 14, 15, 16, 17, 18, 19, 20, 21, 22, 23, 24, 25]) i hlt
                          simp only [List.mem_cons, List.not_mem_nil, or_false] at hc
                          clear hi hlt
                          rcases hc with rfl | rfl | rfl | rfl | rfl | rfl | rfl | rfl | rfl | rfl | rfl | rfl | rfl | rfl | rfl | rfl | rfl | rfl | rfl | rfl | rfl | rfl | rfl | rfl | rfl | rfl <;> (have hp := hpre _ rfl; simp [Region.binds] at hp; clear hpre)
                          · skip
                            have HV := Lib.hid hv
                            clear hv
                            refine wpOp_go rfl rfl (fun K hK => ?_)
                            go_simp
                            refine hK _ _ ?_
                            exact ⟨_, _, _, rfl, HV.out.new (x := .slice (some ⟨gO, 0, none⟩) n c0) rfl, hZ.keep.map (fun ⟨hb0, y22, y23⟩ => ⟨hb0, y22.keep (by decide), y23.keep (by decide)⟩), hM0.keep (by decide), hE.mono (by decide), by simp [hz]⟩
                          · skip
                            have HV := Lib.hid hv
                            clear hv
                            refine wpOp_go rfl rfl (fun K hK => ?_)
                            go_simp
                            refine hK _ _ ?_
                            exact ⟨_, _, _, rfl, HV.out.new (x := .int .i64 i) rfl, hZ.keep.map (fun ⟨hb0, y22, y23⟩ => ⟨hb0, y22.keep (by decide), y23.keep (by decide)⟩), hM0.keep (by decide), hE.mono (by decide), by simp [hz]⟩
                          · skip
                            have e0 : V3 0 = .slice (some ⟨gO, 0, none⟩) n c0 := hv.get 0 (by decide) (by simp [hp])
                            have e1 : V3 1 = .int .i64 i := hv.get 1 (by decide) (by simp [hp])
                            have HV := Lib.hid ((hv.fixE e0 rfl).fixE e1 rfl)
                            clear hv
                            simp only [e0, e1]
                            refine wpOp_go rfl rfl (fun K hK => ?_)
                            go_simp
                            refine hK _ _ ?_
                            exact ⟨_, _, _, rfl, HV.out.new (x := .pointer (some ⟨gO, i, none⟩)) rfl, hZ.keep.map (fun ⟨hb0, y22, y23⟩ => ⟨hb0, y22.keep (by decide), y23.keep (by decide)⟩), hM0.keep (by decide), hE.mono (by decide), by simp [hz]⟩
                          · skip
                            have e2 : V3 2 = .pointer (some ⟨gO, i, none⟩) := hv.get 2 (by decide) (by simp [hp])
                            have HV := Lib.hid (hv.fixE e2 rfl)
                            clear hv
                            simp only [e2]
                            have hY := hZ.get (fun h => off hoff (hE.get 24 3 (by decide) (hE.get 25 24 (by decide) h)))
                            have z := keepc hY.1 r1 hlO
                            refine wpOp_go rfl rfl (fun K hK => ?_)
                            go_simp
                            refine hK _ _ ?_
                            exact ⟨_, _, _, rfl, HV.out.new (x := .slice (some ⟨gi, 0, none⟩) m ki) rfl, hZ.keep.map (fun ⟨hb0, y22, y23⟩ => ⟨hb0, y22.keep (by decide), y23.keep (by decide)⟩), hM0.keep (by decide), hE.mono (by decide), by simp [hz]⟩
                          · skip
                            have HV := Lib.hid hv
                            clear hv
                            refine wpOp_go rfl rfl (fun K hK => ?_)
                            go_simp
                            refine hK _ _ ?_
                            exact ⟨_, _, _, rfl, HV.out.new (x := .int .i64 j) rfl, hZ.keep.map (fun ⟨hb0, y22, y23⟩ => ⟨hb0, y22.keep (by decide), y23.keep (by decide)⟩), hM0.keep (by decide), hE.mono (by decide), by simp [hz]⟩
                          · skip
                            have HV := Lib.hid hv
                            clear hv
                            refine wpOp_go rfl rfl (fun K hK => ?_)
                            go_simp
                            refine hK _ _ ?_
                            exact ⟨_, _, _, rfl, HV.out.new (x := .slice (some ⟨gO, 0, none⟩) n c0) rfl, hZ.keep.map (fun ⟨hb0, y22, y23⟩ => ⟨hb0, y22.keep (by decide), y23.keep (by decide)⟩), hM0.keep (by decide), hE.mono (by decide), by simp [hz]⟩
                          · skip
                            have HV := Lib.hid hv
                            clear hv
                            refine wpOp_go rfl rfl (fun K hK => ?_)
                            go_simp
                            refine hK _ _ ?_
                            exact ⟨_, _, _, rfl, HV.out.new (x := .int .i64 i) rfl, hZ.keep.map (fun ⟨hb0, y22, y23⟩ => ⟨hb0, y22.keep (by decide), y23.keep (by decide)⟩), hM0.keep (by decide), hE.mono (by decide), by simp [hz]⟩
                          · skip
                            have e5 : V3 5 = .slice (some ⟨gO, 0, none⟩) n c0 := hv.get 5 (by decide) (by simp [hp])
                            have e6 : V3 6 = .int .i64 i := hv.get 6 (by decide) (by simp [hp])
                            have HV := Lib.hid ((hv.fixE e5 rfl).fixE e6 rfl)
                            clear hv
                            simp only [e5, e6]
                            refine wpOp_go rfl rfl (fun K hK => ?_)
                            go_simp
                            refine hK _ _ ?_
                            exact ⟨_, _, _, rfl, HV.out.new (x := .pointer (some ⟨gO, i, none⟩)) rfl, hZ.keep.map (fun ⟨hb0, y22, y23⟩ => ⟨hb0, y22.keep (by decide), y23.keep (by decide)⟩), hM0.keep (by decide), hE.mono (by decide), by simp [hz]⟩
                          · skip
                            have e7 : V3 7 = .pointer (some ⟨gO, i, none⟩) := hv.get 7 (by decide) (by simp [hp])
                            have HV := Lib.hid (hv.fixE e7 rfl)
                            clear hv
                            simp only [e7]
                            have hY := hZ.get (fun h => off hoff (hE.get 10 8 (by decide) (hE.get 11 10 (by decide) (hE.get 12 11 (by decide) (hE.get 23 12 (by decide) (hE.get 25 23 (by decide) h))))))
                            have z := keepc hY.1 r1 hlO
                            refine wpOp_go rfl rfl (fun K hK => ?_)
                            go_simp
                            refine hK _ _ ?_
                            exact ⟨_, _, _, rfl, HV.out.new (x := .slice (some ⟨gi, 0, none⟩) m ki) rfl, hZ.keep.map (fun ⟨hb0, y22, y23⟩ => ⟨hb0, y22.keep (by decide), y23.keep (by decide)⟩), hM0.keep (by decide), hE.mono (by decide), by simp [hz]⟩
                          · skip
                            have HV := Lib.hid hv
                            clear hv
                            refine wpOp_go rfl rfl (fun K hK => ?_)
                            go_simp
                            refine hK _ _ ?_
                            exact ⟨_, _, _, rfl, HV.out.new (x := .int .i64 j) rfl, hZ.keep.map (fun ⟨hb0, y22, y23⟩ => ⟨hb0, y22.keep (by decide), y23.keep (by decide)⟩), hM0.keep (by decide), hE.mono (by decide), by simp [hz]⟩
                          · skip
                            have e8 : V3 8 = .slice (some ⟨gi, 0, none⟩) m ki := hv.get 8 (by decide) (by simp [hp])
                            have e9 : V3 9 = .int .i64 j := hv.get 9 (by decide) (by simp [hp])
                            have HV := Lib.hid ((hv.fixE e8 rfl).fixE e9 rfl)
                            clear hv
                            simp only [e8, e9]
                            refine wpOp_go rfl rfl (fun K hK => ?_)
                            go_simp
                            refine hK _ _ ?_
                            exact ⟨_, _, _, rfl, HV.out.new (x := .pointer (some ⟨gi, j * 5, none⟩)) rfl, hZ.keep.map (fun ⟨hb0, y22, y23⟩ => ⟨hb0, y22.keep (by decide), y23.keep (by decide)⟩), hM0.keep (by decide), hE.step (by simp [hp]), by simp [hz]⟩
                          · skip
                            have e10 : V3 10 = .pointer (some ⟨gi, j * 5, none⟩) := hv.get 10 (by decide) (by simp [hp])
                            have HV := Lib.hid (hv.fixE e10 rfl)
                            clear hv
                            simp only [e10]
                            have hY := hZ.get (fun h => off hoff (hE.get 12 11 (by decide) (hE.get 23 12 (by decide) (hE.get 25 23 (by decide) h))))
                            obtain ⟨z0, z1, z2, z3, z4⟩ := hcs
                            have y0 := keepc hY.1 z0 r2; have y1 := keepc hY.1 z1 r2; have y2 := keepc hY.1 z2 r2; have y3 := keepc hY.1 z3 r2; have y4 := keepc hY.1 z4 r2
                            refine wpOp_go rfl rfl (fun K hK => ?_)
                            go_simp
                            refine hK _ _ ?_
                            exact ⟨_, _, _, rfl, HV.out.new (x := .agg #[.bool (sn (na x)), .slice A1 (ln (ab (na x))) (ln (ab (na x))), .bool (sn (nb x)), .slice A2 (ln (ab (nb x))) (ln (ab (nb x))), .slice A3 (ln (un x)) (ln (un x))]) rfl, hZ.keep.map (fun ⟨hb0, y22, y23⟩ => ⟨hb0, y22.keep (by decide), y23.keep (by decide)⟩), hM0.keep (by decide), hE.step (by simp [hp]), by simp [hz]⟩
                          · skip
                            have e11 : V3 11 = .agg #[.bool (sn (na x)), .slice A1 (ln (ab (na x))) (ln (ab (na x))), .bool (sn (nb x)), .slice A2 (ln (ab (nb x))) (ln (ab (nb x))), .slice A3 (ln (un x)) (ln (un x))] := hv.get 11 (by decide) (by simp [hp])
                            have HV := Lib.hid (hv.fixE e11 rfl)
                            clear hv
                            simp only [e11]
                            refine wpOp_go rfl rfl (fun K hK => ?_)
                            go_simp
                            refine hK _ _ ?_
                            exact ⟨_, _, _, rfl, HV.out.new (x := .iface 34 (.agg #[.bool (sn (na x)), .slice A1 (ln (ab (na x))) (ln (ab (na x))), .bool (sn (nb x)), .slice A2 (ln (ab (nb x))) (ln (ab (nb x))), .slice A3 (ln (un x)) (ln (un x))])) rfl, hZ.keep.map (fun ⟨hb0, y22, y23⟩ => ⟨hb0, y22.keep (by decide), y23.keep (by decide)⟩), hM0.keep (by decide), hE.step (by simp [hp]), by simp [hz]⟩
                          · skip
                            have HV := Lib.hid hv
                            clear hv
                            have hY := hZ.get (fun h => off hoff (hE.get 14 13 (by decide) (hE.get 22 14 (by decide) (hE.get 23 22 (by decide) (hE.get 25 23 (by decide) h)))))
                            obtain ⟨z0, z1, z2, z3, z4⟩ := hsc
                            have y0 := keepc hY.1 z0 hls; have y1 := keepc hY.1 z1 hls; have y2 := keepc hY.1 z2 hls; have y3 := keepc hY.1 z3 hls; have y4 := keepc hY.1 z4 hls
                            refine wpOp_go rfl rfl (fun K hK => ?_)
                            go_simp
                            refine hK _ _ ?_
                            exact ⟨_, _, _, rfl, HV.out.new (x := .agg #[.bool (sn (na Fq)), .slice S1 (ln (ab (na Fq))) (ln (ab (na Fq))), .bool (sn (nb Fq)), .slice S2 (ln (ab (nb Fq))) (ln (ab (nb Fq))), .slice S3 (ln (un Fq)) (ln (un Fq))]) rfl, hZ.keep.map (fun ⟨hb0, y22, y23⟩ => ⟨hb0, y22.keep (by decide), y23.keep (by decide)⟩), hM0.keep (by decide), hE.mono (by decide), by simp [hz]⟩
                          · skip
                            have e13 : V3 13 = .agg #[.bool (sn (na Fq)), .slice S1 (ln (ab (na Fq))) (ln (ab (na Fq))), .bool (sn (nb Fq)), .slice S2 (ln (ab (nb Fq))) (ln (ab (nb Fq))), .slice S3 (ln (un Fq)) (ln (un Fq))] := hv.get 13 (by decide) (by simp [hp])
                            have HV := Lib.hid (hv.fixE e13 rfl)
                            clear hv
                            simp only [e13]
                            refine wpOp_go rfl rfl (fun K hK => ?_)
                            go_simp
                            refine hK _ _ ?_
                            exact ⟨_, _, _, rfl, HV.out.new (x := .iface 34 (.agg #[.bool (sn (na Fq)), .slice S1 (ln (ab (na Fq))) (ln (ab (na Fq))), .bool (sn (nb Fq)), .slice S2 (ln (ab (nb Fq))) (ln (ab (nb Fq))), .slice S3 (ln (un Fq)) (ln (un Fq))])) rfl, hZ.keep.map (fun ⟨hb0, y22, y23⟩ => ⟨hb0, y22.keep (by decide), y23.keep (by decide)⟩), hM0.keep (by decide), hE.step (by simp [hp]), by simp [hz]⟩
                          · skip
                            have HV := Lib.hid hv
                            clear hv
                            refine wpOp_go rfl rfl (fun K hK => ?_)
                            go_simp
                            refine hK _ _ ?_
                            exact ⟨_, _, _, rfl, HV.out.new (x := .slice (some ⟨gO, 0, none⟩) n c0) rfl, hZ.keep.map (fun ⟨hb0, y22, y23⟩ => ⟨hb0, y22.keep (by decide), y23.keep (by decide)⟩), hM0.keep (by decide), hE.mono (by decide), by simp [hz]⟩
                          · skip
                            have HV := Lib.hid hv
                            clear hv
                            refine wpOp_go rfl rfl (fun K hK => ?_)
                            go_simp
                            refine hK _ _ ?_
                            exact ⟨_, _, _, rfl, HV.out.new (x := .int .i64 c) rfl, hZ.keep.map (fun ⟨hb0, y22, y23⟩ => ⟨hb0, y22.keep (by decide), y23.keep (by decide)⟩), hM0.keep (by decide), hE.mono (by decide), by simp [hz]⟩
                          · skip
                            have e15 : V3 15 = .slice (some ⟨gO, 0, none⟩) n c0 := hv.get 15 (by decide) (by simp [hp])
                            have e16 : V3 16 = .int .i64 c := hv.get 16 (by decide) (by simp [hp])
                            have HV := Lib.hid ((hv.fixE e15 rfl).fixE e16 rfl)
                            clear hv
                            simp only [e15, e16]
                            refine wpOp_go rfl rfl (fun K hK => ?_)
                            go_simp
                            refine hK _ _ ?_
                            exact ⟨_, _, _, rfl, HV.out.new (x := .pointer (some ⟨gO, c, none⟩)) rfl, hZ.keep.map (fun ⟨hb0, y22, y23⟩ => ⟨hb0, y22.keep (by decide), y23.keep (by decide)⟩), hM0.keep (by decide), hE.mono (by decide), by simp [hz]⟩
                          · skip
                            have e17 : V3 17 = .pointer (some ⟨gO, c, none⟩) := hv.get 17 (by decide) (by simp [hp])
                            have HV := Lib.hid (hv.fixE e17 rfl)
                            clear hv
                            simp only [e17]
                            have hY := hZ.get (fun h => off hoff (hE.get 20 18 (by decide) (hE.get 21 20 (by decide) (hE.get 22 21 (by decide) (hE.get 23 22 (by decide) (hE.get 25 23 (by decide) h))))))
                            have z := keepc hY.1 p1 hlO
                            refine wpOp_go rfl rfl (fun K hK => ?_)
                            go_simp
                            refine hK _ _ ?_
                            exact ⟨_, _, _, rfl, HV.out.new (x := .slice (some ⟨gc, 0, none⟩) m kc) rfl, hZ.keep.map (fun ⟨hb0, y22, y23⟩ => ⟨hb0, y22.keep (by decide), y23.keep (by decide)⟩), hM0.keep (by decide), hE.mono (by decide), by simp [hz]⟩
                          · skip
                            have HV := Lib.hid hv
                            clear hv
                            refine wpOp_go rfl rfl (fun K hK => ?_)
                            go_simp
                            refine hK _ _ ?_
                            exact ⟨_, _, _, rfl, HV.out.new (x := .int .i64 j) rfl, hZ.keep.map (fun ⟨hb0, y22, y23⟩ => ⟨hb0, y22.keep (by decide), y23.keep (by decide)⟩), hM0.keep (by decide), hE.mono (by decide), by simp [hz]⟩
                          · skip
                            have e18 : V3 18 = .slice (some ⟨gc, 0, none⟩) m kc := hv.get 18 (by decide) (by simp [hp])
                            have e19 : V3 19 = .int .i64 j := hv.get 19 (by decide) (by simp [hp])
                            have HV := Lib.hid ((hv.fixE e18 rfl).fixE e19 rfl)
                            clear hv
                            simp only [e18, e19]
                            refine wpOp_go rfl rfl (fun K hK => ?_)
                            go_simp
                            refine hK _ _ ?_
                            exact ⟨_, _, _, rfl, HV.out.new (x := .pointer (some ⟨gc, j * 5, none⟩)) rfl, hZ.keep.map (fun ⟨hb0, y22, y23⟩ => ⟨hb0, y22.keep (by decide), y23.keep (by decide)⟩), hM0.keep (by decide), hE.step (by simp [hp]), by simp [hz]⟩
                          · skip
                            have e20 : V3 20 = .pointer (some ⟨gc, j * 5, none⟩) := hv.get 20 (by decide) (by simp [hp])
                            have HV := Lib.hid (hv.fixE e20 rfl)
                            clear hv
                            simp only [e20]
                            have hY := hZ.get (fun h => off hoff (hE.get 22 21 (by decide) (hE.get 23 22 (by decide) (hE.get 25 23 (by decide) h))))
                            obtain ⟨z0, z1, z2, z3, z4⟩ := hds
                            have y0 := keepc hY.1 z0 p2; have y1 := keepc hY.1 z1 p2; have y2 := keepc hY.1 z2 p2; have y3 := keepc hY.1 z3 p2; have y4 := keepc hY.1 z4 p2
                            refine wpOp_go rfl rfl (fun K hK => ?_)
                            go_simp
                            refine hK _ _ ?_
                            exact ⟨_, _, _, rfl, HV.out.new (x := .agg #[.bool (sn (na y)), .slice B1 (ln (ab (na y))) (ln (ab (na y))), .bool (sn (nb y)), .slice B2 (ln (ab (nb y))) (ln (ab (nb y))), .slice B3 (ln (un y)) (ln (un y))]) rfl, hZ.keep.map (fun ⟨hb0, y22, y23⟩ => ⟨hb0, y22.keep (by decide), y23.keep (by decide)⟩), hM0.keep (by decide), hE.step (by simp [hp]), by simp [hz]⟩
                          · skip
                            have e14 : V3 14 = .iface 34 (.agg #[.bool (sn (na Fq)), .slice S1 (ln (ab (na Fq))) (ln (ab (na Fq))), .bool (sn (nb Fq)), .slice S2 (ln (ab (nb Fq))) (ln (ab (nb Fq))), .slice S3 (ln (un Fq)) (ln (un Fq))]) := hv.get 14 (by decide) (by simp [hp])
                            have e21 : V3 21 = .agg #[.bool (sn (na y)), .slice B1 (ln (ab (na y))) (ln (ab (na y))), .bool (sn (nb y)), .slice B2 (ln (ab (nb y))) (ln (ab (nb y))), .slice B3 (ln (un y)) (ln (un y))] := hv.get 21 (by decide) (by simp [hp])
                            have HV := Lib.hid ((hv.fixE e14 rfl).fixE e21 rfl)
                            clear hv
                            simp only [e14, e21]
                            have hY := hZ.get (fun h => off hoff (hE.get 23 22 (by decide) (hE.get 25 23 (by decide) h)))
                            refine wpOp_go rfl rfl (fun K hK => ?_)
                            go_wp2_with (first | (go_at_call 10; refine (mul_num Fq y S1 S2 S3 B1 B2 B3 _ (hsn.to hY.1) (hM.to hY.1) ZZ.out.2.2.1 ZZ.out.2.1).mono ?_; rintro e w3 ⟨E1, E2, E3, rfl, hNN, hb⟩))
                            try refine hK _ _ ?_
                            exact ⟨_, _, _, rfl, HV.out.other (by decide), Off.new ⟨hY.1.trans (hb.mono hY.1.size), On.new (⟨E1, E2, E3, rfl, hNN⟩), ((hY.2.2).keep (by decide)).map (fun h => h.to hb)⟩, fun h => absurd (hE.get 23 22 (by decide) (hE.get 25 23 (by decide) (on_ne h (by decide)))) (off hoff), hE.step (by simp [hp]), by simp [hz]⟩
                          · skip
                            have e12 : V3 12 = .iface 34 (.agg #[.bool (sn (na x)), .slice A1 (ln (ab (na x))) (ln (ab (na x))), .bool (sn (nb x)), .slice A2 (ln (ab (nb x))) (ln (ab (nb x))), .slice A3 (ln (un x)) (ln (un x))]) := hv.get 12 (by decide) (by simp [hp])
                            have HV := Lib.hid (hv.fixE e12 rfl)
                            clear hv
                            simp only [e12]
                            have hY := hZ.get (fun h => off hoff (hE.get 25 23 (by decide) h))
                            obtain ⟨G1, G2, G3, e0, hMM⟩ := hY.2.1.get (by simp [hp])
                            subst e0
                            refine wpOp_go rfl rfl (fun K hK => ?_)
                            go_wp2_with (first | (go_at_call 47; refine (sub_num x (Fq.mul y) A1 A2 A3 G1 G2 G3 _ (hN.to hY.1) hMM ZZ.out.1 ZZ.out.2.2.2).mono ?_; rintro e w3 ⟨E1, E2, E3, rfl, hNN, hb⟩))
                            try refine hK _ _ ?_
                            exact ⟨_, _, _, rfl, HV.out.other (by decide), Off.new ⟨hY.1.trans (hb.mono hY.1.size), ((hY.2.1).keep (by decide)).map (fun h => h.to hb), On.new (⟨E1, E2, E3, rfl, hNN⟩)⟩, fun h => absurd (hE.get 25 23 (by decide) (on_ne h (by decide))) (off hoff), hE.step (by simp [hp]), by simp [hz]⟩
                          · skip
                            have e3 : V3 3 = .slice (some ⟨gi, 0, none⟩) m ki := hv.get 3 (by decide) (by simp [hp])
                            have e4 : V3 4 = .int .i64 j := hv.get 4 (by decide) (by simp [hp])
                            have HV := Lib.hid ((hv.fixE e3 rfl).fixE e4 rfl)
                            clear hv
                            simp only [e3, e4]
                            refine wpOp_go rfl rfl (fun K hK => ?_)
                            go_simp
                            refine hK _ _ ?_
                            exact ⟨_, _, _, rfl, HV.out.new (x := .pointer (some ⟨gi, j * 5, none⟩)) rfl, hZ.keep.map (fun ⟨hb0, y22, y23⟩ => ⟨hb0, y22.keep (by decide), y23.keep (by decide)⟩), hM0.keep (by decide), hE.step (by simp [hp]), by simp [hz]⟩
                          · skip
                            have e24 : V3 24 = .pointer (some ⟨gi, j * 5, none⟩) := hv.get 24 (by decide) (by simp [hp])
                            have HV := Lib.hid (hv.fixE e24 rfl)
                            clear hv
                            simp only [e24]
                            have hY := hZ.get (off hoff)
                            obtain ⟨E1, E2, E3, e1, hNN⟩ := hY.2.2.get (by simp [hp])
                            subst e1
                            have hvk := hvj.to hY.1
                            obtain ⟨⟨u0, u1, u2, u3, u4, d0, d1, d2, d3, d4⟩, ⟨f0, f1, f2, f3, f4⟩, ⟨cb, hcb⟩, hfin⟩ := hput W' hY.1
                            refine wpOp_go rfl rfl (fun K hK => ?_)
                            go_simp
                            refine hK _ _ ?_
                            obtain ⟨XX, hX⟩ : ∃ XX : World, XX = set5o W' gi (j * 5) (x.sub (Fq.mul y)) E1 E2 E3 := ⟨_, rfl⟩
                            have hw : set5o W' gi (j * 5) (x.sub (Fq.mul y)) E1 E2 E3 = XX := hX.symm
                            unfold set5o at hw
                            rw [hw]
                            subst hX
                            exact ⟨_, _, _, rfl, HV.out.other (by decide), Off.done (by omega), On.new (⟨hvk.set5o hne hcb, hfin (lowAt c g' i (j + 1)) _ E1 E2 E3 hNN HNEW.out (fun a b _ _ h => lowAt_old h)⟩), hE.step (by simp [hp]), by simp [hz]⟩
                        · intro l a' W' hr hI
                          obtain ⟨V3, x22, x23, rfl, hv, hZ, hM0, hE, hz⟩ := hI
                          have a0 := not_ready (i := 0) hr hz rfl (by simp [Region.binds])
                          have a1 := not_ready (i := 1) hr hz rfl (by simp [Region.binds, a0])
                          have a2 := not_ready (i := 2) hr hz rfl (by simp [Region.binds, a0, a1])
                          have a3 := not_ready (i := 3) hr hz rfl (by simp [Region.binds, a0, a1, a2])
                          have a4 := not_ready (i := 4) hr hz rfl (by simp [Region.binds, a0, a1, a2, a3])
                          have a5 := not_ready (i := 5) hr hz rfl (by simp [Region.binds, a0, a1, a2, a3, a4])
                          have a6 := not_ready (i := 6) hr hz rfl (by simp [Region.binds, a0, a1, a2, a3, a4, a5])
                          have a7 := not_ready (i := 7) hr hz rfl (by simp [Region.binds, a0, a1, a2, a3, a4, a5, a6])
                          have a8 := not_ready (i := 8) hr hz rfl (by simp [Region.binds, a0, a1, a2, a3, a4, a5, a6, a7])
                          have a9 := not_ready (i := 9) hr hz rfl (by simp [Region.binds, a0, a1, a2, a3, a4, a5, a6, a7, a8])
                          have a10 := not_ready (i := 10) hr hz rfl (by simp [Region.binds, a0, a1, a2, a3, a4, a5, a6, a7, a8, a9])
                          have a11 := not_ready (i := 11) hr hz rfl (by simp [Region.binds, a0, a1, a2, a3, a4, a5, a6, a7, a8, a9, a10])
                          have a12 := not_ready (i := 12) hr hz rfl (by simp [Region.binds, a0, a1, a2, a3, a4, a5, a6, a7, a8, a9, a10, a11])
                          have a13 := not_ready (i := 13) hr hz rfl (by simp [Region.binds, a0, a1, a2, a3, a4, a5, a6, a7, a8, a9, a10, a11, a12])
                          have a14 := not_ready (i := 14) hr hz rfl (by simp [Region.binds, a0, a1, a2, a3, a4, a5, a6, a7, a8, a9, a10, a11, a12, a13])
                          have a15 := not_ready (i := 15) hr hz rfl (by simp [Region.binds, a0, a1, a2, a3, a4, a5, a6, a7, a8, a9, a10, a11, a12, a13, a14])
                          have a16 := not_ready (i := 16) hr hz rfl (by simp [Region.binds, a0, a1, a2, a3, a4, a5, a6, a7, a8, a9, a10, a11, a12, a13, a14, a15])
                          have a17 := not_ready (i := 17) hr hz rfl (by simp [Region.binds, a0, a1, a2, a3, a4, a5, a6, a7, a8, a9, a10, a11, a12, a13, a14, a15, a16])
                          have a18 := not_ready (i := 18) hr hz rfl (by simp [Region.binds, a0, a1, a2, a3, a4, a5, a6, a7, a8, a9, a10, a11, a12, a13, a14, a15, a16, a17])
                          have a19 := not_ready (i := 19) hr hz rfl (by simp [Region.binds, a0, a1, a2, a3, a4, a5, a6, a7, a8, a9, a10, a11, a12, a13, a14, a15, a16, a17, a18])
                          have a20 := not_ready (i := 20) hr hz rfl (by simp [Region.binds, a0, a1, a2, a3, a4, a5, a6, a7, a8, a9, a10, a11, a12, a13, a14, a15, a16, a17, a18, a19])
                          have a21 := not_ready (i := 21) hr hz rfl (by simp [Region.binds, a0, a1, a2, a3, a4, a5, a6, a7, a8, a9, a10, a11, a12, a13, a14, a15, a16, a17, a18, a19, a20])
                          have a22 := not_ready (i := 22) hr hz rfl (by simp [Region.binds, a0, a1, a2, a3, a4, a5, a6, a7, a8, a9, a10, a11, a12, a13, a14, a15, a16, a17, a18, a19, a20, a21])
                          have a23 := not_ready (i := 23) hr hz rfl (by simp [Region.binds, a0, a1, a2, a3, a4, a5, a6, a7, a8, a9, a10, a11, a12, a13, a14, a15, a16, a17, a18, a19, a20, a21, a22])
                          have a24 := not_ready (i := 24) hr hz rfl (by simp [Region.binds, a0, a1, a2, a3, a4, a5, a6, a7, a8, a9, a10, a11, a12, a13, a14, a15, a16, a17, a18, a19, a20, a21, a22, a23])
                          have a25 := not_ready (i := 25) hr hz rfl (by simp [Region.binds, a0, a1, a2, a3, a4, a5, a6, a7, a8, a9, a10, a11, a12, a13, a14, a15, a16, a17, a18, a19, a20, a21, a22, a23, a24])
                          have hY := hM0.get a25
                          clear hr hz hv hZ a0 a1 a2 a3 a4 a5 a6 a7 a8 a9 a10 a11 a12 a13 a14 a15 a16 a17 a18 a19 a20 a21 a22 a23 a24 a25 hM0 hE
                          go_wp2_with fail
                          go_roundw
                          case rel => exact ⟨j + 1, by omega, by omega, by go_num, hY.1, hY.2⟩
                          case measure => simp [intOf]; omega
                        · exact ⟨fun zz => List.getD [u98, u99, u100, u101, u102, u103, u104, u105, u106, u107, u108, u109, u110, u111, u112, u113, u114, u115, u116, u117, u118, u119, u120, u121, u122, undef] zz undef, _, _, rfl, OnFix.start, Off.new ⟨((Below.refl _ _).drew), fun h => absurd h (by decide), fun h => absurd h (by decide)⟩, fun h => absurd h (by decide), Edg.start, by simp⟩
                      · obtain rfl : j = m := by omega
                        obtain ⟨gi, ki, r1, r2, _, _⟩ := hBj.row hin
                        have i1 : (0 : Int) ≤ (i : Int) := by omega
                        have i2 : (i : Int) < (n : Int) := by omega
                        have HBJ := Lib.hid hBj
                        clear hBj
                        go_wp2_with fail
                        go_roundw
                        case rel => exact ⟨i + 1, by omega, by omega, by go_num, HBJ.out.cong lowAt_end⟩
                        case measure => simp [intOf]; omega
                  · exact ⟨fun zz => List.getD [u69, u70, u71, u72, u73, u74, u75, u76, u77, u78, u79, u80, u81, u82, u83, u84, u68, u85, u86, u8, undef, u9] zz undef, _, _, _, _, _, _, rfl, OnFix.start, Off.new ⟨((Below.refl _ _).drew), fun h => absurd h (by decide), fun h => absurd h (by decide), fun h => absurd h (by decide), fun h => absurd h (by decide)⟩, fun h => absurd h (by decide), fun h => absurd h (by decide), Edg.start, by simp⟩
                · obtain rfl : i = n := by omega
                  go_wp2_with fail
                  go_roundw
                  case rel =>
                    exact ⟨c + 1, s', low c g', by omega, hs1, rfl, by go_num, HRR, Lib.hid (sz_low (HK1.out c) hlt hnm HGZ.out HGS.out), hB.cong lowTo_end⟩
                  case measure => simp [intOf]; omega
        · obtain rfl : q = n := by omega
          obtain rfl : p = q := by omega
          have t0 : decide ((p : Int) < (p : Int)) = false := by rw [decide_eq_false_iff_not]; omega
          have e1 := HR.out
          rw [elim_stop (by omega) (HPV.out.trans (by omega))] at e1
          clear HPV HP3 HP4
          go_wp2_with fail
          refine bodyPost_ret (v := .tuple #[.int .i64 s, .int .i64 c]) (by simp [results, Try.results28, go_sem]) rfl ?_
          rw [← e1]
          exact ⟨rfl, hB⟩
    · obtain rfl : c = n := by omega
      have e1 := HR.out
      rw [Nat.sub_self] at e1
      go_wp2_with fail
      refine bodyPost_ret (v := .tuple #[.int .i64 s, .int .i64 (-1)]) (by simp [results, Try.results28, go_sem]) rfl ?_
      rw [← e1]
      exact ⟨rfl, hB⟩
end Go.Proofs.Ytdpjknjlhchmcaa

namespace Go.Proofs.Ytdpjknjlhchmcaa
open Go.RowKit Pl
set_option linter.unusedVariables false
set_option linter.unusedSimpArgs false
/-- A slot holds a Boolean. -/
def SlotB (w : World) (u : Value) (b : Bool) : Prop := u = .bool b
theorem SlotB.to {w w' : World} {u : Value} {b : Bool} (h : SlotB w u b) (hb : Below w.heap.size w w') : SlotB w' u b := h
theorem MatP.congN {w : World} {A : Option Addr} {n : Nat} {N M : Nat → Nat} {f : Nat → Nat → Cx} (h : MatP w A n N f) (e : ∀ i, i < n → N i = M i) : MatP w A n M f := by
  obtain ⟨R, K, h1, h2⟩ := h
  exact ⟨R, K, fun i hi => by rw [← e i hi]; exact h1 i hi, fun i hi j hj => h2 i hi j (by rw [e i hi]; exact hj)⟩
theorem square_any (w : World) (A : Option Addr) (n c : Nat) (N : Nat → Nat) (f : Nat → Nat → Cx) (hM : MatP w A n N f) (hn : n ≤ 1000) (hN : ∀ i, i < n → N i ≤ 1000) (ok : Bool) (hok : ok = true ↔ (Valid n N ∧ colN n N = n)) :
    Calls Try.prog 26 #[.slice A n c] w (RetBool w ok) := by
  obtain ⟨R, K, hG, _⟩ := hM
  obtain ⟨v, hv⟩ := bool_iff (Valid n N)
  have HC := columns_any w A n c R N K hG hn hN v hv
  obtain ⟨m, hm⟩ : ∃ m, m = colN n N := ⟨_, rfl⟩
  have hm2 : m ≤ 1000 := by rw [hm]; exact col_le hN
  rw [← hv, ← hm] at hok
  rw [← hm] at HC
  have HOK := Lib.hid hok
  clear hG hn hN hv hm hok
  go_enter Try.func26, Try.ntmps26
  go_wp2_with fail
  refine HC.mono ?_
  rintro e w1 ⟨rfl, hb⟩
  cases v with
  | false =>
    have e1 : ok = false := by
      cases ok with
      | false => rfl
      | true => exact absurd (HOK.out.1 rfl).1 (by decide)
    go_wp2_with fail
    go_ret
    exact ⟨by rw [e1]; rfl, hb⟩
  | true =>
    by_cases h : m = n
    · have t : ((m : Int) == (n : Int)) = true := by rw [beq_iff_eq]; omega
      have e1 : ok = true := HOK.out.2 ⟨rfl, h⟩
      clear h
      go_wp2_with fail
      go_ret
      exact ⟨by rw [e1]; rfl, hb⟩
    · have t : ((m : Int) == (n : Int)) = false := by rw [beq_eq_false_iff_ne]; omega
      have e1 : ok = false := by
        cases ok with
        | false => rfl
        | true => exact absurd (HOK.out.1 rfl).2 h
      clear h
      go_wp2_with fail
      go_ret
      exact ⟨by rw [e1]; rfl, hb⟩
set_option maxRecDepth 100000 in
set_option maxHeartbeats 40000000 in
/-- The closure of 'Det' at a row that is 0 in the column. -/
theorem dclos_any (w : World) (g m k gS gT t : Nat) (hp : PE w g (t * 5) Cx.zero) (hS : w.cell? ⟨gS, 0, none⟩ = some (.int .i64 t)) (hT : C5 w gT (.bool false) (.slice none 0 0) (.bool false) (.slice none 0 0) (.slice none 0 0)) (ht : t < m) (hm : m ≤ 1000) :
    Calls Try.prog 30 #[.slice (some ⟨g, 0, none⟩) m k, .pointer (some ⟨gS, 0, none⟩), .pointer (some ⟨gT, 0, none⟩)] w (RetBool w false) := by
  have hm_Of : ∀ (k : Nat) (v1 v2 v3 v4 v5 : Value) (w : World), (method (k + 1) 34 (.agg #[v1, v2, v3, v4, v5]) "Of").run Try.prog w = .ok (112, .agg #[v1, v2, v3, v4, v5]) w := fun _ _ _ _ _ _ _ => by kernel_rfl
  have hm_Same : ∀ (k : Nat) (v1 v2 v3 v4 v5 : Value) (w : World), (method (k + 1) 34 (.agg #[v1, v2, v3, v4, v5]) "Same").run Try.prog w = .ok (11, .agg #[v1, v2, v3, v4, v5]) w := fun _ _ _ _ _ _ _ => by kernel_rfl
  obtain ⟨x, hx⟩ : ∃ x, x = Cx.zero := ⟨_, rfl⟩
  rw [← hx] at hp
  obtain ⟨A1, A2, A3, hcs, hN⟩ := hp
  have hlg : g < w.heap.size := World.block_lt_of_cell? w ⟨g, _, none⟩ hcs.1
  have hlS : gS < w.heap.size := World.block_lt_of_cell? w ⟨gS, _, none⟩ hS
  have hlT : gT < w.heap.size := World.block_lt_of_cell? w ⟨gT, _, none⟩ hT.1
  have zx : sz 137438953472 x := by rw [hx]; exact sz_int0.mono (by decide)
  have hd : decide (x = Cx.ofInt 0) = true := decide_eq_true (by rw [hx]; rfl)
  have HX := Lib.hid (And.intro zx (And.intro ((sz_int0).mono (show 1 ≤ 137438953472 by decide)) hd))
  have i1 : (0 : Int) ≤ (t : Int) := by omega
  have i2 : (t : Int) < (m : Int) := by omega
  clear hx zx hd
  go_enter Try.func30, Try.ntmps30
  go_upto_region 1 with fail
  refine wp_region_any (by kernel_rfl) ?_
  refine wpAny_inv (fun l a' w' => ∃ V : Nat → Value, ∃ x7 x8 x9 x10 x11 : Value, a' = ⟨#[.slice (some ⟨g, 0, none⟩) m k, .pointer (some ⟨gS, 0, none⟩), .pointer (some ⟨gT, 0, none⟩), undef, x11, V 0, V 1, V 2, V 3, V 4, V 5, V 6, x7, x8, x9, x10], []⟩ ∧ OnFix l V (fun zz => List.getD [.slice (some ⟨g, 0, none⟩) m k, .int .i64 t, .pointer (some ⟨g, t * 5, none⟩), .agg #[.bool (sn (na x)), .slice A1 (ln (ab (na x))) (ln (ab (na x))), .bool (sn (nb x)), .slice A2 (ln (ab (nb x))) (ln (ab (nb x))), .slice A3 (ln (un x)) (ln (un x))], .iface 34 (.agg #[.bool (sn (na x)), .slice A1 (ln (ab (na x))) (ln (ab (na x))), .bool (sn (nb x)), .slice A2 (ln (ab (nb x))) (ln (ab (nb x))), .slice A3 (ln (un x)) (ln (un x))]), .agg #[.bool false, .slice none 0 0, .bool false, .slice none 0 0, .slice none 0 0], .iface 34 (.agg #[.bool false, .slice none 0 0, .bool false, .slice none 0 0, .slice none 0 0]), undef, undef, undef, undef, undef] zz undef) [0, 1, 2, 3, 4, 5, 6] ∧ Off l 11 (Below w.heap.size w w' ∧ On l 7 (SlotNum w' x7 (Cx.ofInt 0)) ∧ On l 8 (SlotNum w' x8 (Cx.ofInt 0)) ∧ On l 9 (SlotB w' x9 true) ∧ On l 10 (SlotB w' x10 false)) ∧ On l 11 (x11 = .bool false ∧ Below w.heap.size w w') ∧ Edg l [(11, 10), (10, 9), (9, 4), (4, 3), (3, 2), (2, 1), (9, 8), (8, 6), (6, 5), (8, 7)] ∧ l.size = 12) ?_ ?_ _ _ _ _ (by decide) ?_
  · intro l a' W' i hi hI
    obtain ⟨V, x7, x8, x9, x10, x11, rfl, hv, hZ, hM0, hE, hz⟩ := hI
    obtain ⟨hlt, hoff, hpre⟩ := ready_pre hi
    have hc : i ∈ [0, 1, 2, 3, 4, 5, 6, 7, 8, 9, 10, 11] := (by decide : ∀ i, i < 12 → i ∈ [0, 1, 2, 3, 4, 5, 6, 7, 8, 9, 10, 11]) i hlt
    simp only [List.mem_cons, List.not_mem_nil, or_false] at hc
    clear hi hlt
    rcases hc with rfl | rfl | rfl | rfl | rfl | rfl | rfl | rfl | rfl | rfl | rfl | rfl <;> (have hp := hpre _ rfl; simp [Region.binds] at hp; clear hpre)
    · skip
      have HV := Lib.hid hv
      clear hv
      refine wpOp_go rfl rfl (fun K hK => ?_)
      go_simp
      refine hK _ _ ?_
      exact ⟨_, _, _, _, _, _, rfl, HV.out.new (x := .slice (some ⟨g, 0, none⟩) m k) rfl, hZ.keep.map (fun ⟨hb0, y7, y8, y9, y10⟩ => ⟨hb0, y7.keep (by decide), y8.keep (by decide), y9.keep (by decide), y10.keep (by decide)⟩), hM0.keep (by decide), hE.mono (by decide), by simp [hz]⟩
    · skip
      have HV := Lib.hid hv
      clear hv
      have hY := hZ.get (fun h => off hoff (hE.get 2 1 (by decide) (hE.get 3 2 (by decide) (hE.get 4 3 (by decide) (hE.get 9 4 (by decide) (hE.get 10 9 (by decide) (hE.get 11 10 (by decide) h)))))))
      have z := keepc hY.1 hS hlS
      refine wpOp_go rfl rfl (fun K hK => ?_)
      go_simp
      refine hK _ _ ?_
      exact ⟨_, _, _, _, _, _, rfl, HV.out.new (x := .int .i64 t) rfl, hZ.keep.map (fun ⟨hb0, y7, y8, y9, y10⟩ => ⟨hb0, y7.keep (by decide), y8.keep (by decide), y9.keep (by decide), y10.keep (by decide)⟩), hM0.keep (by decide), hE.mono (by decide), by simp [hz]⟩
    · skip
      have e0 : V 0 = .slice (some ⟨g, 0, none⟩) m k := hv.get 0 (by decide) (by simp [hp])
      have e1 : V 1 = .int .i64 t := hv.get 1 (by decide) (by simp [hp])
      have HV := Lib.hid ((hv.fixE e0 rfl).fixE e1 rfl)
      clear hv
      simp only [e0, e1]
      refine wpOp_go rfl rfl (fun K hK => ?_)
      go_simp
      refine hK _ _ ?_
      exact ⟨_, _, _, _, _, _, rfl, HV.out.new (x := .pointer (some ⟨g, t * 5, none⟩)) rfl, hZ.keep.map (fun ⟨hb0, y7, y8, y9, y10⟩ => ⟨hb0, y7.keep (by decide), y8.keep (by decide), y9.keep (by decide), y10.keep (by decide)⟩), hM0.keep (by decide), hE.step (by simp [hp]), by simp [hz]⟩
    · skip
      have e2 : V 2 = .pointer (some ⟨g, t * 5, none⟩) := hv.get 2 (by decide) (by simp [hp])
      have HV := Lib.hid (hv.fixE e2 rfl)
      clear hv
      simp only [e2]
      have hY := hZ.get (fun h => off hoff (hE.get 4 3 (by decide) (hE.get 9 4 (by decide) (hE.get 10 9 (by decide) (hE.get 11 10 (by decide) h)))))
      obtain ⟨z0, z1, z2, z3, z4⟩ := hcs
      have y0 := keepc hY.1 z0 hlg; have y1 := keepc hY.1 z1 hlg; have y2 := keepc hY.1 z2 hlg; have y3 := keepc hY.1 z3 hlg; have y4 := keepc hY.1 z4 hlg
      refine wpOp_go rfl rfl (fun K hK => ?_)
      go_simp
      refine hK _ _ ?_
      exact ⟨_, _, _, _, _, _, rfl, HV.out.new (x := .agg #[.bool (sn (na x)), .slice A1 (ln (ab (na x))) (ln (ab (na x))), .bool (sn (nb x)), .slice A2 (ln (ab (nb x))) (ln (ab (nb x))), .slice A3 (ln (un x)) (ln (un x))]) rfl, hZ.keep.map (fun ⟨hb0, y7, y8, y9, y10⟩ => ⟨hb0, y7.keep (by decide), y8.keep (by decide), y9.keep (by decide), y10.keep (by decide)⟩), hM0.keep (by decide), hE.step (by simp [hp]), by simp [hz]⟩
    · skip
      have e3 : V 3 = .agg #[.bool (sn (na x)), .slice A1 (ln (ab (na x))) (ln (ab (na x))), .bool (sn (nb x)), .slice A2 (ln (ab (nb x))) (ln (ab (nb x))), .slice A3 (ln (un x)) (ln (un x))] := hv.get 3 (by decide) (by simp [hp])
      have HV := Lib.hid (hv.fixE e3 rfl)
      clear hv
      simp only [e3]
      refine wpOp_go rfl rfl (fun K hK => ?_)
      go_simp
      refine hK _ _ ?_
      exact ⟨_, _, _, _, _, _, rfl, HV.out.new (x := .iface 34 (.agg #[.bool (sn (na x)), .slice A1 (ln (ab (na x))) (ln (ab (na x))), .bool (sn (nb x)), .slice A2 (ln (ab (nb x))) (ln (ab (nb x))), .slice A3 (ln (un x)) (ln (un x))])) rfl, hZ.keep.map (fun ⟨hb0, y7, y8, y9, y10⟩ => ⟨hb0, y7.keep (by decide), y8.keep (by decide), y9.keep (by decide), y10.keep (by decide)⟩), hM0.keep (by decide), hE.step (by simp [hp]), by simp [hz]⟩
    · skip
      have HV := Lib.hid hv
      clear hv
      have hY := hZ.get (fun h => off hoff (hE.get 6 5 (by decide) (hE.get 8 6 (by decide) (hE.get 9 8 (by decide) (hE.get 10 9 (by decide) (hE.get 11 10 (by decide) h))))))
      obtain ⟨z0, z1, z2, z3, z4⟩ := hT
      have y0 := keepc hY.1 z0 hlT; have y1 := keepc hY.1 z1 hlT; have y2 := keepc hY.1 z2 hlT; have y3 := keepc hY.1 z3 hlT; have y4 := keepc hY.1 z4 hlT
      refine wpOp_go rfl rfl (fun K hK => ?_)
      go_simp
      refine hK _ _ ?_
      exact ⟨_, _, _, _, _, _, rfl, HV.out.new (x := .agg #[.bool false, .slice none 0 0, .bool false, .slice none 0 0, .slice none 0 0]) rfl, hZ.keep.map (fun ⟨hb0, y7, y8, y9, y10⟩ => ⟨hb0, y7.keep (by decide), y8.keep (by decide), y9.keep (by decide), y10.keep (by decide)⟩), hM0.keep (by decide), hE.mono (by decide), by simp [hz]⟩
    · skip
      have e5 : V 5 = .agg #[.bool false, .slice none 0 0, .bool false, .slice none 0 0, .slice none 0 0] := hv.get 5 (by decide) (by simp [hp])
      have HV := Lib.hid (hv.fixE e5 rfl)
      clear hv
      simp only [e5]
      refine wpOp_go rfl rfl (fun K hK => ?_)
      go_simp
      refine hK _ _ ?_
      exact ⟨_, _, _, _, _, _, rfl, HV.out.new (x := .iface 34 (.agg #[.bool false, .slice none 0 0, .bool false, .slice none 0 0, .slice none 0 0])) rfl, hZ.keep.map (fun ⟨hb0, y7, y8, y9, y10⟩ => ⟨hb0, y7.keep (by decide), y8.keep (by decide), y9.keep (by decide), y10.keep (by decide)⟩), hM0.keep (by decide), hE.step (by simp [hp]), by simp [hz]⟩
    · skip
      have HV := Lib.hid hv
      clear hv
      have hY := hZ.get (fun h => off hoff (hE.get 8 7 (by decide) (hE.get 9 8 (by decide) (hE.get 10 9 (by decide) (hE.get 11 10 (by decide) h)))))
      refine wpOp_go rfl rfl (fun K hK => ?_)
      go_wp2_with (first | (go_at_call 31; refine (int_any 0 _ (by omega) (by omega)).mono ?_; rintro e w3 ⟨E1, E2, E3, rfl, hNN, hb⟩))
      try refine hK _ _ ?_
      exact ⟨_, _, _, _, _, _, rfl, HV.out.other (by decide), Off.new ⟨hY.1.trans (hb.mono hY.1.size), On.new (⟨E1, E2, E3, rfl, hNN⟩), ((hY.2.2.1).keep (by decide)).map (fun h => h.to hb), ((hY.2.2.2.1).keep (by decide)).map (fun h => h.to hb), ((hY.2.2.2.2).keep (by decide)).map (fun h => h.to hb)⟩, fun h => absurd (hE.get 8 7 (by decide) (hE.get 9 8 (by decide) (hE.get 10 9 (by decide) (hE.get 11 10 (by decide) (on_ne h (by decide)))))) (off hoff), hE.mono (by decide), by simp [hz]⟩
    · skip
      have e6 : V 6 = .iface 34 (.agg #[.bool false, .slice none 0 0, .bool false, .slice none 0 0, .slice none 0 0]) := hv.get 6 (by decide) (by simp [hp])
      have HV := Lib.hid (hv.fixE e6 rfl)
      clear hv
      simp only [e6]
      have hY := hZ.get (fun h => off hoff (hE.get 9 8 (by decide) (hE.get 10 9 (by decide) (hE.get 11 10 (by decide) h))))
      obtain ⟨G1, G2, G3, e0, hMM⟩ := hY.2.1.get (by simp [hp])
      subst e0
      refine wpOp_go rfl rfl (fun K hK => ?_)
      go_wp2_with (first | (go_at_call 112; refine (of_five _ _ _ _ _ (Cx.ofInt 0) G1 G2 G3 _ hMM rfl rfl rfl rfl rfl).mono ?_; rintro e w3 ⟨E1, E2, E3, rfl, hNN, hb⟩))
      try refine hK _ _ ?_
      exact ⟨_, _, _, _, _, _, rfl, HV.out.other (by decide), Off.new ⟨hY.1.trans (hb.mono hY.1.size), ((hY.2.1).keep (by decide)).map (fun h => h.to hb), On.new (⟨E1, E2, E3, rfl, hNN⟩), ((hY.2.2.2.1).keep (by decide)).map (fun h => h.to hb), ((hY.2.2.2.2).keep (by decide)).map (fun h => h.to hb)⟩, fun h => absurd (hE.get 9 8 (by decide) (hE.get 10 9 (by decide) (hE.get 11 10 (by decide) (on_ne h (by decide))))) (off hoff), hE.step (by simp [hp]), by simp [hz]⟩
    · skip
      have e4 : V 4 = .iface 34 (.agg #[.bool (sn (na x)), .slice A1 (ln (ab (na x))) (ln (ab (na x))), .bool (sn (nb x)), .slice A2 (ln (ab (nb x))) (ln (ab (nb x))), .slice A3 (ln (un x)) (ln (un x))]) := hv.get 4 (by decide) (by simp [hp])
      have HV := Lib.hid (hv.fixE e4 rfl)
      clear hv
      simp only [e4]
      have hY := hZ.get (fun h => off hoff (hE.get 10 9 (by decide) (hE.get 11 10 (by decide) h)))
      obtain ⟨G1, G2, G3, e0, hMM⟩ := hY.2.2.1.get (by simp [hp])
      subst e0
      refine wpOp_go rfl rfl (fun K hK => ?_)
      go_wp2_with (first | (go_at_call 11; refine (same_to x (Cx.ofInt 0) A1 A2 A3 G1 G2 G3 _ (hN.to hY.1) hMM HX.out.1 HX.out.2.1 HX.out.2.2).mono ?_; rintro e w3 ⟨rfl, hb⟩))
      try refine hK _ _ ?_
      exact ⟨_, _, _, _, _, _, rfl, HV.out.other (by decide), Off.new ⟨hY.1.trans (hb.mono hY.1.size), ((hY.2.1).keep (by decide)).map (fun h => h.to hb), ((hY.2.2.1).keep (by decide)).map (fun h => h.to hb), On.new (rfl), ((hY.2.2.2.2).keep (by decide)).map (fun h => h.to hb)⟩, fun h => absurd (hE.get 10 9 (by decide) (hE.get 11 10 (by decide) (on_ne h (by decide)))) (off hoff), hE.step (by simp [hp]), by simp [hz]⟩
    · skip
      have HV := Lib.hid hv
      clear hv
      have hY := hZ.get (fun h => off hoff (hE.get 11 10 (by decide) h))
      have e0 : _ = _ := hY.2.2.2.1.get (by simp [hp])
      subst e0
      refine wpOp_go rfl rfl (fun K hK => ?_)
      go_simp
      refine hK _ _ ?_
      exact ⟨_, _, _, _, _, _, rfl, HV.out.other (by decide), Off.new ⟨hY.1, ((hY.2.1).keep (by decide)).map (fun h => h), ((hY.2.2.1).keep (by decide)).map (fun h => h), ((hY.2.2.2.1).keep (by decide)).map (fun h => h), On.new (rfl)⟩, fun h => absurd (hE.get 11 10 (by decide) (on_ne h (by decide))) (off hoff), hE.step (by simp [hp]), by simp [hz]⟩
    · skip
      have HV := Lib.hid hv
      clear hv
      have hY := hZ.get (off hoff)
      have e0 : _ = _ := hY.2.2.2.2.get (by simp [hp])
      subst e0
      refine wpOp_go rfl rfl (fun K hK => ?_)
      go_simp
      refine hK _ _ ?_
      exact ⟨_, _, _, _, _, _, rfl, HV.out.other (by decide), Off.done (by omega), On.new (⟨rfl, hY.1⟩), hE.step (by simp [hp]), by simp [hz]⟩
  · intro l a' W' hr hI
    obtain ⟨V, x7, x8, x9, x10, x11, rfl, hv, hZ, hM0, hE, hz⟩ := hI
    have a0 := not_ready (i := 0) hr hz rfl (by simp [Region.binds])
    have a1 := not_ready (i := 1) hr hz rfl (by simp [Region.binds, a0])
    have a2 := not_ready (i := 2) hr hz rfl (by simp [Region.binds, a0, a1])
    have a3 := not_ready (i := 3) hr hz rfl (by simp [Region.binds, a0, a1, a2])
    have a4 := not_ready (i := 4) hr hz rfl (by simp [Region.binds, a0, a1, a2, a3])
    have a5 := not_ready (i := 5) hr hz rfl (by simp [Region.binds, a0, a1, a2, a3, a4])
    have a6 := not_ready (i := 6) hr hz rfl (by simp [Region.binds, a0, a1, a2, a3, a4, a5])
    have a7 := not_ready (i := 7) hr hz rfl (by simp [Region.binds, a0, a1, a2, a3, a4, a5, a6])
    have a8 := not_ready (i := 8) hr hz rfl (by simp [Region.binds, a0, a1, a2, a3, a4, a5, a6, a7])
    have a9 := not_ready (i := 9) hr hz rfl (by simp [Region.binds, a0, a1, a2, a3, a4, a5, a6, a7, a8])
    have a10 := not_ready (i := 10) hr hz rfl (by simp [Region.binds, a0, a1, a2, a3, a4, a5, a6, a7, a8, a9])
    have a11 := not_ready (i := 11) hr hz rfl (by simp [Region.binds, a0, a1, a2, a3, a4, a5, a6, a7, a8, a9, a10])
    have hY := hM0.get a11
    clear hr hz hv hZ a0 a1 a2 a3 a4 a5 a6 a7 a8 a9 a10 a11 hM0 hE
    obtain ⟨e0, hb⟩ := hY
    subst e0
    go_wp2_with fail
    go_ret
    exact ⟨rfl, hb⟩
  · exact ⟨fun zz => List.getD [undef, undef, undef, undef, undef, undef, undef, undef, undef, undef, undef, Value.bool false] zz undef, _, _, _, _, _, rfl, OnFix.start, Off.new ⟨((Below.refl _ _).drew), fun h => absurd h (by decide), fun h => absurd h (by decide), fun h => absurd h (by decide), fun h => absurd h (by decide)⟩, fun h => absurd h (by decide), Edg.start, by simp⟩
set_option maxHeartbeats 4000000 in
theorem dindex_any (w : World) (A : Option Addr) (n c m gS gT t : Nat) (f : Nat → Nat → Cx) (hM : MatP w A n (fun _ => m) f) (hz : ∀ i, i < n → f i t = Cx.zero) (hS : w.cell? ⟨gS, 0, none⟩ = some (.int .i64 t)) (hT : C5 w gT (.bool false) (.slice none 0 0) (.bool false) (.slice none 0 0) (.slice none 0 0)) (ht : t < m) (hm : m ≤ 1000) (hn : n ≤ 1000) :
    Calls Try.prog 45 #[.slice A n c, .func (.func 30) #[] #[.pointer (some ⟨gS, 0, none⟩), .pointer (some ⟨gT, 0, none⟩)]] w (fun e w' => e = .returned (.int .i64 (-1)) ∧ Below w.heap.size w w') := by
  have HM := Lib.hid hM
  have HZ := Lib.hid hz
  have HST := Lib.hid (And.intro hS hT)
  have hlS : gS < w.heap.size := World.block_lt_of_cell? w ⟨gS, _, none⟩ hS
  have hlT : gT < w.heap.size := World.block_lt_of_cell? w ⟨gT, _, none⟩ hT.1
  clear hM hz hS hT
  go_enter Try.func45, Try.ntmps45
  go_wp2_with fail
  go_loopw [8] (fun i (wr : World) => ∃ k : Nat, k ≤ n ∧ i = .int .i64 k ∧ Below w.heap.size w wr) (fun i _ => n - (intOf i).toNat)
  case atStart => exact ⟨0, Nat.zero_le _, rfl, Below.refl _ _⟩
  case round =>
    obtain ⟨k, hk, rfl, hb⟩ := hrel
    by_cases hlt : k < n
    · obtain ⟨R, K, g1, g2⟩ := HM.out.to hb
      obtain ⟨b, fo, rfl, hl, d0⟩ := g1 k hlt
      obtain ⟨g, eg, hp⟩ := g2 k hlt t ht
      rw [eg] at d0
      rw [HZ.out k hlt] at hp
      have HCL := Lib.hid (dclos_any wr g m (K k) gS gT t hp (keepc hb HST.out.1 hlS) (HST.out.2.to hb hlT) ht hm)
      have HB := Lib.hid hb
      generalize K k = kk at *
      clear g1 g2 eg hp hb
      go_wp2_with fail
      refine HCL.out.mono ?_
      rintro e w1 ⟨rfl, hb1⟩
      go_wp2_with fail
      go_roundw
      case rel => exact ⟨k + 1, by omega, by go_num, HB.out.trans (hb1.mono HB.out.size)⟩
      case measure => simp [intOf]; omega
    · obtain rfl : k = n := by omega
      go_wp2_with fail
      go_ret
      exact ⟨rfl, hb⟩
set_option maxHeartbeats 4000000 in
theorem dcontains_any (w : World) (A : Option Addr) (n c m gS gT t : Nat) (f : Nat → Nat → Cx) (hM : MatP w A n (fun _ => m) f) (hz : ∀ i, i < n → f i t = Cx.zero) (hS : w.cell? ⟨gS, 0, none⟩ = some (.int .i64 t)) (hT : C5 w gT (.bool false) (.slice none 0 0) (.bool false) (.slice none 0 0) (.slice none 0 0)) (ht : t < m) (hm : m ≤ 1000) (hn : n ≤ 1000) :
    Calls Try.prog 29 #[.slice A n c, .func (.func 30) #[] #[.pointer (some ⟨gS, 0, none⟩), .pointer (some ⟨gT, 0, none⟩)]] w (RetBool w false) := by
  have HI := Lib.hid (dindex_any w A n c m gS gT t f hM hz hS hT ht hm hn)
  clear hM hz hS hT ht hm hn
  go_enter Try.func29, Try.ntmps29
  go_wp2_with fail
  refine HI.out.mono ?_
  rintro e w1 ⟨rfl, hb⟩
  go_wp2_with fail
  go_ret
  exact ⟨rfl, hb⟩
end Go.Proofs.Ytdpjknjlhchmcaa

namespace Go.Proofs.Ytdpjknjlhchmcaa
open Go.RowKit Pl
set_option linter.unusedVariables false
set_option linter.unusedSimpArgs false
theorem MatP.none (w : World) (N : Nat → Nat) (f : Nat → Nat → Cx) : MatP w none 0 N f := ⟨fun _ => .none, fun _ => 0, fun i hi => absurd hi (Nat.not_lt_zero _), fun i hi => absurd hi (Nat.not_lt_zero _)⟩
theorem MatP.drop {w : World} {b fo n t : Nat} {N : Nat → Nat} {f : Nat → Nat → Cx} (h : MatP w (some ⟨b, fo, .none⟩) n N f) : MatP w (some ⟨b, fo + t, .none⟩) (n - t) (fun i => N (t + i)) (fun i => f (t + i)) := by
  obtain ⟨R, K, h1, h2⟩ := h
  refine ⟨fun i => R (t + i), fun i => K (t + i), fun i hi => ?_, fun i hi j hj => h2 (t + i) (by omega) j hj⟩
  obtain ⟨b', fo', e, hl, hc⟩ := h1 (t + i) (by omega)
  injection e with e; injection e with e1 e2; subst e1 e2
  exact ⟨b, fo + t, rfl, hl, by rw [Nat.add_assoc]; exact hc⟩
theorem two_vars (w : World) : Below w.heap.size w ((w.alloc (.cells #[.bool false, .slice .none 0 0, .bool false, .slice .none 0 0, .slice .none 0 0] 34)).alloc (.cells #[.bool false, .slice .none 0 0, .bool false, .slice .none 0 0, .slice .none 0 0] 34)) ∧ Var5 ((w.alloc (.cells #[.bool false, .slice .none 0 0, .bool false, .slice .none 0 0, .slice .none 0 0] 34)).alloc (.cells #[.bool false, .slice .none 0 0, .bool false, .slice .none 0 0, .slice .none 0 0] 34)) w.heap.size ∧
    C5 ((w.alloc (.cells #[.bool false, .slice .none 0 0, .bool false, .slice .none 0 0, .slice .none 0 0] 34)).alloc (.cells #[.bool false, .slice .none 0 0, .bool false, .slice .none 0 0, .slice .none 0 0] 34)) (w.heap.size + 1) (.bool false) (.slice .none 0 0) (.bool false) (.slice .none 0 0) (.slice .none 0 0) ∧ w.heap.size + 1 < ((w.alloc (.cells #[.bool false, .slice .none 0 0, .bool false, .slice .none 0 0, .slice .none 0 0] 34)).alloc (.cells #[.bool false, .slice .none 0 0, .bool false, .slice .none 0 0, .slice .none 0 0] 34)).heap.size :=
  ⟨((Below.refl _ _).alloc (Nat.le_refl _) _).alloc (by simp) _, Var5.new.to ((Below.refl _ _).alloc (Nat.le_refl _) _), ⟨by go_simp, by go_simp, by go_simp, by go_simp, by go_simp⟩, by simp⟩
theorem hasP_new {w : World} {q : Cx} {A1 A2 A3 : Option Addr} {T : TypeId} (n : Num3 w A1 A2 A3 q) : HasP (w.alloc (.cells #[.bool (sn (na q)), .slice A1 (ln (ab (na q))) (ln (ab (na q))), .bool (sn (nb q)), .slice A2 (ln (ab (nb q))) (ln (ab (nb q))), .slice A3 (ln (un q)) (ln (un q))] T)) w.heap.size q :=
  ⟨by simp, ⟨A1, A2, A3, ⟨by go_simp, by go_simp, by go_simp, by go_simp, by go_simp⟩, num3_alloc n⟩, by go_simp, by go_simp, by go_simp, by go_simp, by go_simp⟩
theorem Var5.cells {w : World} {g : Nat} (h : Var5 w g) : (∃ c v1 v2 v3 v4, C5 w g (.bool c) v1 v2 v3 v4) ∧ Froz w g := by
  obtain ⟨_, ⟨c, v1, v2, v3, v4, c0, c1, c2, c3, c4⟩, f⟩ := h; exact ⟨⟨c, v1, v2, v3, v4, c0, c1, c2, c3, c4⟩, f⟩
set_option maxRecDepth 100000 in
set_option maxHeartbeats 40000000 in
theorem det_any (w : World) (A : Option Addr) (n c K0 : Nat) (N : Nat → Nat) (f : Nat → Nat → Cx) (hM : MatP w A n N f) (hn : n ≤ 5) (hN : ∀ i, i < n → N i = n) (hK : 1 ≤ K0) (hB : 8 * bd K0 n + 100 ≤ 137438953472) (hS : ∀ i k, i < n → k < n → sz K0 (f i k)) :
    Calls Try.prog 9 #[.slice A n c] w (RetNumE w 0 (detF n f)) := by
  have hsq : Valid n N ∧ colN n N = n := by
    unfold Valid colN
    by_cases h : n = 0
    · exact ⟨.inl h, by rw [if_pos h, h]⟩
    · have h0 := hN 0 (by omega)
      exact ⟨.inr ⟨by omega, by omega, fun i hi => by rw [hN i hi, h0]⟩, by rw [if_neg h, h0]⟩
  have HSQ := Lib.hid (fun (W : World) (h : MatP W A n N f) => square_any W A n c N f h (by omega) (fun i hi => by rw [hN i hi]; omega) true ⟨fun _ => hsq, fun _ => rfl⟩)
  have HCP := Lib.hid (fun (W : World) (h : MatP W A n N f) => copied_any W A .none n c n 0 0 (fun _ => 0) f f (h.congN hN) (MatP.none W _ _) (by omega) (by omega) (by omega) (fun h => h) (fun j hj => absurd hj (Nat.not_lt_zero _)))
  have HEL := Lib.hid (fun (w0 W : World) (z gO : Nat) (h : WkP w0 z gO n n f W) => eliminate_any w0 W z gO n n n K0 f h (by omega) (Nat.le_refl n) (by omega) hK (by omega) hS)
  have HSZ := Lib.hid (elim_sz (Nat.le_refl n) hK n 0 0 f (by omega) hS)
  have HLE := Lib.hid (elim_left n 0 0 f (show 0 + n = n by omega))
  have HVL := Lib.hid (elim_vals n 0 0 f (show 0 + n = n by omega))
  have HSW := Lib.hid (elim_swaps n 0 0 f (show 0 + n = n by omega) (Nat.le_refl 0))
  obtain ⟨q, hq⟩ : ∃ q, q = detF n f := ⟨_, rfl⟩
  have HQ := Lib.hid (show q = detV n (elimF n 0 0 f) from hq)
  rw [← hq]
  obtain ⟨⟨s, st, g⟩, hR⟩ : ∃ R, elimF n 0 0 f = R := ⟨_, rfl⟩
  rw [hR] at HEL HSZ HLE HVL HSW HQ
  have HM := Lib.hid hM
  have HBD := Lib.hid hB
  clear hM hN hsq hq hR hS hB hK
  have hm_Of : ∀ (k : Nat) (v1 v2 v3 v4 v5 : Value) (w : World), (method (k + 1) 34 (.agg #[v1, v2, v3, v4, v5]) "Of").run Try.prog w = .ok (112, .agg #[v1, v2, v3, v4, v5]) w := fun _ _ _ _ _ _ _ => by kernel_rfl
  have hm_Mul : ∀ (k : Nat) (v1 v2 v3 v4 v5 : Value) (w : World), (method (k + 1) 34 (.agg #[v1, v2, v3, v4, v5]) "Mul").run Try.prog w = .ok (10, .agg #[v1, v2, v3, v4, v5]) w := fun _ _ _ _ _ _ _ => by kernel_rfl
  have hm_Neg : ∀ (k : Nat) (v1 v2 v3 v4 v5 : Value) (w : World), (method (k + 1) 34 (.agg #[v1, v2, v3, v4, v5]) "Neg").run Try.prog w = .ok (14, .agg #[v1, v2, v3, v4, v5]) w := fun _ _ _ _ _ _ _ => by kernel_rfl
  go_enter Try.func9, Try.ntmps9
  go_upto_region 2 with fail
  obtain ⟨hb, hv, ht, hl⟩ := two_vars w
  obtain ⟨W0, hW0⟩ : ∃ X : World, X = (w.alloc (.cells #[.bool false, .slice .none 0 0, .bool false, .slice .none 0 0, .slice .none 0 0] 34)).alloc (.cells #[.bool false, .slice .none 0 0, .bool false, .slice .none 0 0, .slice .none 0 0] 34) := ⟨_, rfl⟩
  rw [← hW0] at hb hv ht hl ⊢
  obtain ⟨g2, hg2⟩ : ∃ g, g = w.heap.size := ⟨_, rfl⟩
  rw [← hg2] at hv ht hl ⊢
  have HB := Lib.hid hb
  have HG2 := Lib.hid hg2
  obtain ⟨g4, hg4⟩ : ∃ g, g = g2 + 1 := ⟨_, rfl⟩
  rw [← hg4] at ht hl ⊢
  clear hW0 hg2 hg4
  have HS1 := HSQ.out W0 (HM.out.to hb)
  clear hb HSQ
  go_wp2_with fail
  refine HS1.mono ?_
  rintro e w1 ⟨rfl, hb⟩
  replace HB := Lib.hid (HB.out.trans (hb.mono HB.out.size))
  have HV := Lib.hid (hv.to hb)
  have HT := Lib.hid (And.intro (ht.to hb hl) (Nat.lt_of_lt_of_le hl hb.size))
  have HC1 := HCP.out w1 (HM.out.to HB.out)
  clear hb hv ht hl HS1 HCP HM
  go_wp2_with fail
  refine HC1.mono ?_
  rintro e w2 ⟨gO, rfl, hbld⟩
  have hW := (WkP.of hbld (fun h => h)).cong (f' := f) (fun i k hi hk => (if_pos hk).symm)
  have hE := HEL.out w1 w2 _ gO hW
  generalize w2.heap.size = z at *
  clear hbld hW HC1 HEL
  go_wp2_with fail
  refine hE.mono ?_
  rintro e w3 ⟨rfl, hW3⟩
  have hb := hW3.below
  replace HB := Lib.hid (HB.out.trans (hb.mono HB.out.size))
  replace HV := Lib.hid (HV.out.to hb)
  replace HT := Lib.hid (And.intro (HT.out.1.to hb HT.out.2) (Nat.lt_of_lt_of_le HT.out.2 hb.size))
  have HW := Lib.hid hW3.mat
  have hgO := hW3.lt
  clear hb hE hW3
  go_upto_region 6 with fail
  have hal : Below w3.heap.size w3 (w3.alloc (.cells #[.int .i64 st] 3)) := (Below.refl _ _).alloc (Nat.le_refl _) _
  obtain ⟨W4, hW4⟩ : ∃ X : World, X = w3.alloc (.cells #[.int .i64 st] 3) := ⟨_, rfl⟩
  have hst : W4.cell? ⟨w3.heap.size, 0, none⟩ = some (.int .i64 st) := by rw [hW4]; go_simp
  have hls : w3.heap.size < W4.heap.size := by rw [hW4]; simp
  rw [← hW4] at hal ⊢
  replace HB := Lib.hid (HB.out.trans (hal.mono HB.out.size))
  have hv := HV.out.to hal
  have ht := HT.out.1.to hal HT.out.2
  have hl4 := Nat.lt_of_lt_of_le HT.out.2 hal.size
  replace HW := Lib.hid (HW.out.to hal)
  replace hgO := Nat.lt_of_lt_of_le hgO hal.size
  obtain ⟨gS, hgS⟩ : ∃ g, g = w3.heap.size := ⟨_, rfl⟩
  rw [← hgS] at hst hls ⊢
  have HG2 : Hid (w.heap.size ≤ g2) := Lib.hid (by rw [HG2.out]; exact Nat.le_refl _)
  have HV2 := Lib.hid hv.1
  clear hal hW4 hgS HV HT
  by_cases hs0 : 0 ≤ st
  · obtain ⟨t, e0, htn, hz⟩ := HLE.out hs0
    subst e0
    have i1 : (0 : Int) ≤ (t : Int) := by omega
    have i2 : (t : Int) ≤ (n : Int) := by omega
    have hdr := HW.out.drop (t := t)
    rw [Nat.zero_add] at hdr
    have HD := Lib.hid (dcontains_any W4 (some ⟨gO, t, none⟩) (n - t) (n - t) n gS g4 t (fun i => g (t + i)) hdr (fun i hi => hz (t + i) (by omega) (by omega)) hst ht htn (by omega) (by omega))
    have eq0 : Hid (q = Cx.ofInt 0) := Lib.hid (HQ.out.trans (if_pos (Int.natCast_nonneg t)))
    clear hz hs0 HLE HVL hdr
    go_wp2_with fail
    refine HD.out.mono ?_
    rintro e w5 ⟨rfl, hb⟩
    replace hv := hv.to hb
    replace ht := ht.to hb hl4
    replace hl4 := Nat.lt_of_lt_of_le hl4 hb.size
    replace HB := Lib.hid (HB.out.trans (hb.mono HB.out.size))
    clear hb HD hst hls hgO HW i1 i2
    go_upto_region 9 with fail
    refine wp_region_any (by kernel_rfl) ?_
    refine wpAny_inv (fun l a' w' => ∃ V : Nat → Value, ∃ x2 x3 : Value, a' = ⟨List.toArray (.slice (some ⟨gO, 0, none⟩) n n :: undef :: .pointer (some ⟨g2, 0, none⟩) :: V 5 :: .pointer (some ⟨g4, 0, none⟩) :: .int .i64 ↑s :: .pointer (some ⟨gS, 0, none⟩) :: undef :: undef :: .slice A n c :: .bool true :: .bool false :: undef :: .slice A n c :: .slice (some ⟨gO, 0, none⟩) n n :: .tuple #[.int .i64 ↑s, .int .i64 ↑t] :: .slice (some ⟨gO, 0, none⟩) n n :: .tuple #[.int .i64 ↑s, .int .i64 ↑t] :: .int .i64 ↑s :: .int .i64 ↑t :: .int .i64 ↑t :: .bool true :: .slice (some ⟨gO, 0, none⟩) n n :: .int .i64 ↑t :: .slice (some ⟨gO, t, none⟩) (n - t) (n - t) :: .func (Fn.func 30) #[] #[.pointer (some ⟨gS, 0, none⟩), .pointer (some ⟨g4, 0, none⟩)] :: .bool false :: undef :: V 0 :: V 1 :: x2 :: x3 :: undef :: undef :: undef :: undef :: undef :: undef :: undef :: undef :: undef :: undef :: undef :: undef :: undef :: undef :: undef :: undef :: undef :: undef :: undef :: undef :: undef :: undef :: undef :: undef :: undef :: undef :: undef :: undef :: undef :: undef :: undef :: undef :: undef :: undef :: undef :: []), []⟩ ∧ OnFix l V (fun zz => List.getD [.agg #[.bool false, .slice none 0 0, .bool false, .slice none 0 0, .slice none 0 0], .iface 34 (.agg #[.bool false, .slice none 0 0, .bool false, .slice none 0 0, .slice none 0 0]), undef, undef, undef, .int .i64 0] zz undef) [0, 1, 5] ∧ Off l 4 (Below w5.heap.size w5 w' ∧ On l 2 (SlotNum w' x2 (Cx.ofInt 0)) ∧ On l 3 (SlotNum w' x3 (Cx.ofInt 0))) ∧ On l 4 (HasP w' g2 (Cx.ofInt 0) ∧ Below w.heap.size w w') ∧ Edg l [(4, 3), (3, 1), (1, 0), (3, 2)] ∧ l.size = 6) ?_ ?_ _ _ _ _ (by decide) ?_
    · intro l a' W' i hi hI
      obtain ⟨V, x2, x3, rfl, hv, hZ, hM0, hE, hz⟩ := hI
      obtain ⟨hlt, hoff, hpre⟩ := ready_pre hi
      have hc : i ∈ [0, 1, 2, 3, 4, 5] := (by decide : ∀ i, i < 6 → i ∈ [0, 1, 2, 3, 4, 5]) i hlt
      simp only [List.mem_cons, List.not_mem_nil, or_false] at hc
      clear hi hlt
      rcases hc with rfl | rfl | rfl | rfl | rfl | rfl <;> (have hp := hpre _ rfl; simp [Region.binds] at hp; clear hpre)
      · skip
        have HV := Lib.hid hv
        clear hv
        have hY := hZ.get (fun h => off hoff (hE.get 1 0 (by decide) (hE.get 3 1 (by decide) (hE.get 4 3 (by decide) h))))
        obtain ⟨z0, z1, z2, z3, z4⟩ := ht
        have y0 := keepc hY.1 z0 hl4; have y1 := keepc hY.1 z1 hl4; have y2 := keepc hY.1 z2 hl4; have y3 := keepc hY.1 z3 hl4; have y4 := keepc hY.1 z4 hl4
        refine wpOp_go rfl rfl (fun K hK => ?_)
        go_simp
        refine hK _ _ ?_
        exact ⟨_, _, _, rfl, HV.out.new (x := .agg #[.bool false, .slice none 0 0, .bool false, .slice none 0 0, .slice none 0 0]) rfl, hZ.keep.map (fun ⟨hb0, y2, y3⟩ => ⟨hb0, y2.keep (by decide), y3.keep (by decide)⟩), hM0.keep (by decide), hE.mono (by decide), by simp [hz]⟩
      · skip
        have e0 : V 0 = .agg #[.bool false, .slice none 0 0, .bool false, .slice none 0 0, .slice none 0 0] := hv.get 0 (by decide) (by simp [hp])
        have HV := Lib.hid (hv.fixE e0 rfl)
        clear hv
        simp only [e0]
        refine wpOp_go rfl rfl (fun K hK => ?_)
        go_simp
        refine hK _ _ ?_
        exact ⟨_, _, _, rfl, HV.out.new (x := .iface 34 (.agg #[.bool false, .slice none 0 0, .bool false, .slice none 0 0, .slice none 0 0])) rfl, hZ.keep.map (fun ⟨hb0, y2, y3⟩ => ⟨hb0, y2.keep (by decide), y3.keep (by decide)⟩), hM0.keep (by decide), hE.step (by simp [hp]), by simp [hz]⟩
      · skip
        have HV := Lib.hid hv
        clear hv
        have hY := hZ.get (fun h => off hoff (hE.get 3 2 (by decide) (hE.get 4 3 (by decide) h)))
        refine wpOp_go rfl rfl (fun K hK => ?_)
        go_wp2_with (first | (go_at_call 31; refine (int_any 0 _ (by omega) (by omega)).mono ?_; rintro e w8 ⟨E1, E2, E3, rfl, hNN, hb⟩))
        try refine hK _ _ ?_
        exact ⟨_, _, _, rfl, HV.out.other (by decide), Off.new ⟨hY.1.trans (hb.mono hY.1.size), On.new (⟨E1, E2, E3, rfl, hNN⟩), ((hY.2.2).keep (by decide)).map (fun h => h.to hb)⟩, fun h => absurd (hE.get 3 2 (by decide) (hE.get 4 3 (by decide) (on_ne h (by decide)))) (off hoff), hE.mono (by decide), by simp [hz]⟩
      · skip
        have e1 : V 1 = .iface 34 (.agg #[.bool false, .slice none 0 0, .bool false, .slice none 0 0, .slice none 0 0]) := hv.get 1 (by decide) (by simp [hp])
        have HV := Lib.hid (hv.fixE e1 rfl)
        clear hv
        simp only [e1]
        have hY := hZ.get (fun h => off hoff (hE.get 4 3 (by decide) h))
        obtain ⟨G1, G2, G3, e0, hMM⟩ := hY.2.1.get (by simp [hp])
        subst e0
        refine wpOp_go rfl rfl (fun K hK => ?_)
        go_wp2_with (first | (go_at_call 112; refine (of_five _ _ _ _ _ (Cx.ofInt 0) G1 G2 G3 _ hMM rfl rfl rfl rfl rfl).mono ?_; rintro e w8 ⟨E1, E2, E3, rfl, hNN, hb⟩))
        try refine hK _ _ ?_
        exact ⟨_, _, _, rfl, HV.out.other (by decide), Off.new ⟨hY.1.trans (hb.mono hY.1.size), ((hY.2.1).keep (by decide)).map (fun h => h.to hb), On.new (⟨E1, E2, E3, rfl, hNN⟩)⟩, fun h => absurd (hE.get 4 3 (by decide) (on_ne h (by decide))) (off hoff), hE.step (by simp [hp]), by simp [hz]⟩
      · skip
        have HV := Lib.hid hv
        clear hv
        have hY := hZ.get (off hoff)
        obtain ⟨E1, E2, E3, e1, hNN⟩ := hY.2.2.get (by simp [hp])
        subst e1
        have hv6 := hv.to hY.1
        have hv5 := hv6
        obtain ⟨_, ⟨cc, u1, u2, u3, u4, d0, d1, d2, d3, d4⟩, ⟨f0, f1, f2, f3, f4⟩⟩ := hv5
        refine wpOp_go rfl rfl (fun K hK => ?_)
        go_simp
        refine hK _ _ ?_
        obtain ⟨XX, hX⟩ : ∃ XX : World, XX = set5 W' g2 (Cx.ofInt 0) E1 E2 E3 := ⟨_, rfl⟩
        have hw : set5 W' g2 (Cx.ofInt 0) E1 E2 E3 = XX := hX.symm
        unfold set5 at hw
        rw [hw]
        subst hX
        exact ⟨_, _, _, rfl, HV.out.other (by decide), Off.done (by omega), On.new (⟨hv6.putP hNN, set5_below (HB.out.trans (hY.1.mono HB.out.size)) HG2.out⟩), hE.step (by simp [hp]), by simp [hz]⟩
      · skip
        have HV := Lib.hid hv
        clear hv
        refine wpOp_go rfl rfl (fun K hK => ?_)
        go_simp
        refine hK _ _ ?_
        exact ⟨_, _, _, rfl, HV.out.new (x := .int .i64 0) rfl, hZ.keep.map (fun ⟨hb0, y2, y3⟩ => ⟨hb0, y2.keep (by decide), y3.keep (by decide)⟩), hM0.keep (by decide), hE.mono (by decide), by simp [hz]⟩
    · intro l a' W' hr hI
      obtain ⟨V, x2, x3, rfl, hv, hZ, hM0, hE, hz⟩ := hI
      have a0 := not_ready (i := 0) hr hz rfl (by simp [Region.binds])
      have a1 := not_ready (i := 1) hr hz rfl (by simp [Region.binds, a0])
      have a2 := not_ready (i := 2) hr hz rfl (by simp [Region.binds, a0, a1])
      have a3 := not_ready (i := 3) hr hz rfl (by simp [Region.binds, a0, a1, a2])
      have a4 := not_ready (i := 4) hr hz rfl (by simp [Region.binds, a0, a1, a2, a3])
      have a5 := not_ready (i := 5) hr hz rfl (by simp [Region.binds, a0, a1, a2, a3, a4])
      have hY := hM0.get a4
      have hF5 := hv.get 5 (by decide) a5
      clear hr hz hv hZ a0 a1 a2 a3 a4 a5 hM0 hE
      rw [hF5]
      obtain ⟨hP, hbb⟩ := hY
      obtain ⟨X1, X2, X3, hsc, hNX⟩ := hP.slot
      obtain ⟨d0, d1, d2, d3, d4⟩ := hsc
      go_wp2_with fail
      exact bodyPost_ret (v := .tuple #[.agg #[.bool (sn (na (Cx.ofInt 0))), .slice X1 (ln (ab (na (Cx.ofInt 0)))) (ln (ab (na (Cx.ofInt 0)))), .bool (sn (nb (Cx.ofInt 0))), .slice X2 (ln (ab (nb (Cx.ofInt 0)))) (ln (ab (nb (Cx.ofInt 0)))), .slice X3 (ln (un (Cx.ofInt 0))) (ln (un (Cx.ofInt 0)))], .int .i64 0]) (by simp [results, Try.results9, go_sem, d0, d1, d2, d3, d4]) rfl ⟨X1, X2, X3, by rw [eq0.out], by rw [eq0.out]; exact hNX, hbb⟩
    · exact ⟨fun zz => List.getD [undef, undef, undef, undef, undef, Value.int IntKind.i64 0] zz undef, _, _, rfl, OnFix.start, Off.new ⟨((Below.refl _ _).drew), fun h => absurd h (by decide), fun h => absurd h (by decide)⟩, fun h => absurd h (by decide), Edg.start, by simp⟩
  · obtain e0 : st = -1 := HVL.out.resolve_right hs0
    subst e0
    clear hs0 HLE HVL
    by_cases hn0 : n = 0
    · have t1 : ((n : Int) == 0) = true := by rw [beq_iff_eq]; omega
      have eq0 : Hid (q = Cx.ofInt 1) := Lib.hid (HQ.out.trans (by unfold detV; rw [if_neg (show ¬ (0 : Int) ≤ -1 by decide), if_pos hn0]))
      clear hn0
      go_upto_region 11 with fail
      refine wp_region_any (by kernel_rfl) ?_
      refine wpAny_inv (fun l a' w' => ∃ V2 : Nat → Value, ∃ x2 x3 : Value, a' = ⟨List.toArray (.slice (some ⟨gO, 0, none⟩) n n :: undef :: .pointer (some ⟨g2, 0, none⟩) :: V2 5 :: .pointer (some ⟨g4, 0, none⟩) :: .int .i64 ↑s :: .pointer (some ⟨gS, 0, none⟩) :: undef :: undef :: .slice A n c :: .bool true :: .bool false :: undef :: .slice A n c :: .slice (some ⟨gO, 0, none⟩) n n :: .tuple #[.int .i64 ↑s, .int .i64 (-1)] :: .slice (some ⟨gO, 0, none⟩) n n :: .tuple #[.int .i64 ↑s, .int .i64 (-1)] :: .int .i64 ↑s :: .int .i64 (-1) :: .int .i64 (-1) :: .bool false :: undef :: undef :: undef :: undef :: undef :: undef :: undef :: undef :: undef :: undef :: .slice (some ⟨gO, 0, none⟩) n n :: .int .i64 ↑n :: .bool true :: V2 0 :: V2 1 :: x2 :: x3 :: undef :: undef :: undef :: undef :: undef :: undef :: undef :: undef :: undef :: undef :: undef :: undef :: undef :: undef :: undef :: undef :: undef :: undef :: undef :: undef :: undef :: undef :: undef :: undef :: undef :: undef :: undef :: undef :: []), []⟩ ∧ OnFix l V2 (fun zz => List.getD [.agg #[.bool false, .slice none 0 0, .bool false, .slice none 0 0, .slice none 0 0], .iface 34 (.agg #[.bool false, .slice none 0 0, .bool false, .slice none 0 0, .slice none 0 0]), undef, undef, undef, .int .i64 0] zz undef) [0, 1, 5] ∧ Off l 4 (Below W4.heap.size W4 w' ∧ On l 2 (SlotNum w' x2 (Cx.ofInt 1)) ∧ On l 3 (SlotNum w' x3 (Cx.ofInt 1))) ∧ On l 4 (HasP w' g2 (Cx.ofInt 1) ∧ Below w.heap.size w w') ∧ Edg l [(4, 3), (3, 1), (1, 0), (3, 2)] ∧ l.size = 6) ?_ ?_ _ _ _ _ (by decide) ?_
      · intro l a' W' i hi hI
        obtain ⟨V2, x2, x3, rfl, hv, hZ, hM0, hE, hz⟩ := hI
        obtain ⟨hlt, hoff, hpre⟩ := ready_pre hi
        have hc : i ∈ [0, 1, 2, 3, 4, 5] := (by decide : ∀ i, i < 6 → i ∈ [0, 1, 2, 3, 4, 5]) i hlt
        simp only [List.mem_cons, List.not_mem_nil, or_false] at hc
        clear hi hlt
        rcases hc with rfl | rfl | rfl | rfl | rfl | rfl <;> (have hp := hpre _ rfl; simp [Region.binds] at hp; clear hpre)
        · skip
          have HV := Lib.hid hv
          clear hv
          have hY := hZ.get (fun h => off hoff (hE.get 1 0 (by decide) (hE.get 3 1 (by decide) (hE.get 4 3 (by decide) h))))
          obtain ⟨z0, z1, z2, z3, z4⟩ := ht
          have y0 := keepc hY.1 z0 hl4; have y1 := keepc hY.1 z1 hl4; have y2 := keepc hY.1 z2 hl4; have y3 := keepc hY.1 z3 hl4; have y4 := keepc hY.1 z4 hl4
          refine wpOp_go rfl rfl (fun K hK => ?_)
          go_simp
          refine hK _ _ ?_
          exact ⟨_, _, _, rfl, HV.out.new (x := .agg #[.bool false, .slice none 0 0, .bool false, .slice none 0 0, .slice none 0 0]) rfl, hZ.keep.map (fun ⟨hb0, y2, y3⟩ => ⟨hb0, y2.keep (by decide), y3.keep (by decide)⟩), hM0.keep (by decide), hE.mono (by decide), by simp [hz]⟩
        · skip
          have e0 : V2 0 = .agg #[.bool false, .slice none 0 0, .bool false, .slice none 0 0, .slice none 0 0] := hv.get 0 (by decide) (by simp [hp])
          have HV := Lib.hid (hv.fixE e0 rfl)
          clear hv
          simp only [e0]
          refine wpOp_go rfl rfl (fun K hK => ?_)
          go_simp
          refine hK _ _ ?_
          exact ⟨_, _, _, rfl, HV.out.new (x := .iface 34 (.agg #[.bool false, .slice none 0 0, .bool false, .slice none 0 0, .slice none 0 0])) rfl, hZ.keep.map (fun ⟨hb0, y2, y3⟩ => ⟨hb0, y2.keep (by decide), y3.keep (by decide)⟩), hM0.keep (by decide), hE.step (by simp [hp]), by simp [hz]⟩
        · skip
          have HV := Lib.hid hv
          clear hv
          have hY := hZ.get (fun h => off hoff (hE.get 3 2 (by decide) (hE.get 4 3 (by decide) h)))
          refine wpOp_go rfl rfl (fun K hK => ?_)
          go_wp2_with (first | (go_at_call 31; refine (int_any 1 _ (by omega) (by omega)).mono ?_; rintro e w8 ⟨E1, E2, E3, rfl, hNN, hb⟩))
          try refine hK _ _ ?_
          exact ⟨_, _, _, rfl, HV.out.other (by decide), Off.new ⟨hY.1.trans (hb.mono hY.1.size), On.new (⟨E1, E2, E3, rfl, hNN⟩), ((hY.2.2).keep (by decide)).map (fun h => h.to hb)⟩, fun h => absurd (hE.get 3 2 (by decide) (hE.get 4 3 (by decide) (on_ne h (by decide)))) (off hoff), hE.mono (by decide), by simp [hz]⟩
        · skip
          have e1 : V2 1 = .iface 34 (.agg #[.bool false, .slice none 0 0, .bool false, .slice none 0 0, .slice none 0 0]) := hv.get 1 (by decide) (by simp [hp])
          have HV := Lib.hid (hv.fixE e1 rfl)
          clear hv
          simp only [e1]
          have hY := hZ.get (fun h => off hoff (hE.get 4 3 (by decide) h))
          obtain ⟨G1, G2, G3, e0, hMM⟩ := hY.2.1.get (by simp [hp])
          subst e0
          refine wpOp_go rfl rfl (fun K hK => ?_)
          go_wp2_with (first | (go_at_call 112; refine (of_five _ _ _ _ _ (Cx.ofInt 1) G1 G2 G3 _ hMM rfl rfl rfl rfl rfl).mono ?_; rintro e w8 ⟨E1, E2, E3, rfl, hNN, hb⟩))
          try refine hK _ _ ?_
          exact ⟨_, _, _, rfl, HV.out.other (by decide), Off.new ⟨hY.1.trans (hb.mono hY.1.size), ((hY.2.1).keep (by decide)).map (fun h => h.to hb), On.new (⟨E1, E2, E3, rfl, hNN⟩)⟩, fun h => absurd (hE.get 4 3 (by decide) (on_ne h (by decide))) (off hoff), hE.step (by simp [hp]), by simp [hz]⟩
        · skip
          have HV := Lib.hid hv
          clear hv
          have hY := hZ.get (off hoff)
          obtain ⟨E1, E2, E3, e1, hNN⟩ := hY.2.2.get (by simp [hp])
          subst e1
          have hv6 := hv.to hY.1
          have hv5 := hv6
          obtain ⟨_, ⟨cc, u1, u2, u3, u4, d0, d1, d2, d3, d4⟩, ⟨f0, f1, f2, f3, f4⟩⟩ := hv5
          refine wpOp_go rfl rfl (fun K hK => ?_)
          go_simp
          refine hK _ _ ?_
          obtain ⟨XX, hX⟩ : ∃ XX : World, XX = set5 W' g2 (Cx.ofInt 1) E1 E2 E3 := ⟨_, rfl⟩
          have hw : set5 W' g2 (Cx.ofInt 1) E1 E2 E3 = XX := hX.symm
          unfold set5 at hw
          rw [hw]
          subst hX
          exact ⟨_, _, _, rfl, HV.out.other (by decide), Off.done (by omega), On.new (⟨hv6.putP hNN, set5_below (HB.out.trans (hY.1.mono HB.out.size)) HG2.out⟩), hE.step (by simp [hp]), by simp [hz]⟩
        · skip
          have HV := Lib.hid hv
          clear hv
          refine wpOp_go rfl rfl (fun K hK => ?_)
          go_simp
          refine hK _ _ ?_
          exact ⟨_, _, _, rfl, HV.out.new (x := .int .i64 0) rfl, hZ.keep.map (fun ⟨hb0, y2, y3⟩ => ⟨hb0, y2.keep (by decide), y3.keep (by decide)⟩), hM0.keep (by decide), hE.mono (by decide), by simp [hz]⟩
      · intro l a' W' hr hI
        obtain ⟨V2, x2, x3, rfl, hv, hZ, hM0, hE, hz⟩ := hI
        have a0 := not_ready (i := 0) hr hz rfl (by simp [Region.binds])
        have a1 := not_ready (i := 1) hr hz rfl (by simp [Region.binds, a0])
        have a2 := not_ready (i := 2) hr hz rfl (by simp [Region.binds, a0, a1])
        have a3 := not_ready (i := 3) hr hz rfl (by simp [Region.binds, a0, a1, a2])
        have a4 := not_ready (i := 4) hr hz rfl (by simp [Region.binds, a0, a1, a2, a3])
        have a5 := not_ready (i := 5) hr hz rfl (by simp [Region.binds, a0, a1, a2, a3, a4])
        have hY := hM0.get a4
        have hF5 := hv.get 5 (by decide) a5
        clear hr hz hv hZ a0 a1 a2 a3 a4 a5 hM0 hE
        rw [hF5]
        obtain ⟨hP, hbb⟩ := hY
        obtain ⟨X1, X2, X3, hsc, hNX⟩ := hP.slot
        obtain ⟨d0, d1, d2, d3, d4⟩ := hsc
        go_wp2_with fail
        exact bodyPost_ret (v := .tuple #[.agg #[.bool (sn (na (Cx.ofInt 1))), .slice X1 (ln (ab (na (Cx.ofInt 1)))) (ln (ab (na (Cx.ofInt 1)))), .bool (sn (nb (Cx.ofInt 1))), .slice X2 (ln (ab (nb (Cx.ofInt 1)))) (ln (ab (nb (Cx.ofInt 1)))), .slice X3 (ln (un (Cx.ofInt 1))) (ln (un (Cx.ofInt 1)))], .int .i64 0]) (by simp [results, Try.results9, go_sem, d0, d1, d2, d3, d4]) rfl ⟨X1, X2, X3, by rw [eq0.out], by rw [eq0.out]; exact hNX, hbb⟩
      · exact ⟨fun zz => List.getD [undef, undef, undef, undef, undef, Value.int IntKind.i64 0] zz undef, _, _, rfl, OnFix.start, Off.new ⟨((Below.refl _ _).drew), fun h => absurd h (by decide), fun h => absurd h (by decide)⟩, fun h => absurd h (by decide), Edg.start, by simp⟩
    · have t1 : ((n : Int) == 0) = false := by rw [beq_eq_false_iff_ne]; omega
      obtain ⟨b, fo, gr0, kr0, Z1, Z2, Z3, eA, _, r1, r2, ⟨y0, y1, y2, y3, y4⟩, hN⟩ := HW.out.at (i := 0) (j := 0) (by omega) (by omega) rfl
      injection eA with eA; injection eA with eA1 eA2; subst eA1 eA2
      rw [Nat.zero_add] at r1
      rw [Nat.zero_mul] at y0
      simp only [Nat.zero_mul, Nat.zero_add] at y1 y2 y3 y4
      have i1 : (0 : Int) < (n : Int) := by omega
      obtain ⟨x0, hx⟩ : ∃ x, x = g 0 0 := ⟨_, rfl⟩
      rw [← hx] at y0 y1 y2 y3 y4 hN
      have HN0 := Lib.hid hn0
      have HX := Lib.hid hx
      clear hn0 hls hx
      go_upto_region 14 with fail
      obtain ⟨W5, hW5⟩ : ∃ X : World, X = W4.alloc (.cells #[.bool (sn (na x0)), .slice Z1 (ln (ab (na x0))) (ln (ab (na x0))), .bool (sn (nb x0)), .slice Z2 (ln (ab (nb x0))) (ln (ab (nb x0))), .slice Z3 (ln (un x0)) (ln (un x0))] 34) := ⟨_, rfl⟩
      have hD := hasP_new (T := 34) hN
      have hal : Below W4.heap.size W4 (W4.alloc (.cells #[.bool (sn (na x0)), .slice Z1 (ln (ab (na x0))) (ln (ab (na x0))), .bool (sn (nb x0)), .slice Z2 (ln (ab (nb x0))) (ln (ab (nb x0))), .slice Z3 (ln (un x0)) (ln (un x0))] 34)) := (Below.refl _ _).alloc (Nat.le_refl _) _
      rw [← hW5] at hD hal ⊢
      obtain ⟨gd, hgd⟩ : ∃ g, g = W4.heap.size := ⟨_, rfl⟩
      have hD0 : HasP W5 gd (dgp g 0) := by rw [hgd]; show HasP W5 W4.heap.size (g 0 0); rw [← HX.out]; exact hD
      rw [← hgd] at ⊢
      have HGD := Lib.hid hgd
      clear hW5 hN hD y0 y1 y2 y3 y4 r1 r2 HX hgd i1 hst
      go_loopw [8] (fun i (wr : World) => ∃ i' : Nat, 1 ≤ i' ∧ i' ≤ n ∧ i = .int .i64 i' ∧ HasP wr gd (dgp g (i' - 1)) ∧ Below W4.heap.size W4 wr) (fun i _ => n - (intOf i).toNat)
      case atStart => exact ⟨1, Nat.le_refl _, by have := HN0.out; omega, rfl, hD0, hal⟩
      case round =>
        obtain ⟨i, hi1, hi2, rfl, hD, hbw⟩ := hrel
        clear hD0 hal
        by_cases hin : i < n
        · obtain ⟨b, fo, gr, kr, A1, A2, A3, eA, _, r1, r2, hcs, hN⟩ := (HW.out.to hbw).at hin hin rfl
          injection eA with eA; injection eA with eA1 eA2; subst eA1 eA2
          rw [Nat.zero_add] at r1
          obtain ⟨S1, S2, S3, hsc, hsn⟩ := hD.slot
          have hls := hD.1
          have hlO := Nat.lt_of_lt_of_le hgO hbw.size
          obtain ⟨x, hx⟩ : ∃ x, x = g i i := ⟨_, rfl⟩
          obtain ⟨s', hs'⟩ : ∃ x, x = dgp g (i - 1) := ⟨_, rfl⟩
          rw [← hx] at hcs hN
          rw [← hs'] at hD hsc hsn
          have zx : sz 137438953472 x := by rw [hx]; exact (HSZ.out i i hin hin).mono (by have := HBD.out; omega)
          have zs : sz 137438953472 s' := by
            rw [hs']
            refine (sz_dgp (n := n) (fun i hi => HSZ.out i i hi hi) (i - 1) (by omega)).mono ?_
            have h1 : (i - 1 + 1) * (bd K0 n + 1) ≤ 5 * (bd K0 n + 1) := Nat.mul_le_mul_right _ (by omega)
            have := HBD.out
            omega
          have hnew : s'.mul x = dgp g (i + 1 - 1) := by
            rw [hs', hx]
            obtain ⟨k, rfl⟩ : ∃ k, i = k + 1 := ⟨i - 1, by omega⟩
            rfl
          have ZZ := Lib.hid (And.intro zs zx)
          have HNEW := Lib.hid hnew
          have HBW := Lib.hid hbw
          have i1 : (0 : Int) ≤ (i : Int) := by omega
          have i2 : (i : Int) < (n : Int) := by omega
          clear hx hs' zx zs hnew hbw
          go_upto_region 16 with fail
          refine wp_region_any (by kernel_rfl) ?_
          refine wpAny_inv (fun l a' w' => ∃ V3 : Nat → Value, ∃ x9 : Value, a' = ⟨List.toArray (.slice (some ⟨gO, 0, none⟩) n n :: undef :: .pointer (some ⟨g2, 0, none⟩) :: .int .i64 0 :: .pointer (some ⟨g4, 0, none⟩) :: .int .i64 ↑s :: .pointer (some ⟨gS, 0, none⟩) :: .pointer (some ⟨gd, 0, none⟩) :: .int .i64 ↑i :: .slice A n c :: .bool true :: .bool false :: undef :: .slice A n c :: .slice (some ⟨gO, 0, none⟩) n n :: .tuple #[.int .i64 ↑s, .int .i64 (-1)] :: .slice (some ⟨gO, 0, none⟩) n n :: .tuple #[.int .i64 ↑s, .int .i64 (-1)] :: .int .i64 ↑s :: .int .i64 (-1) :: .int .i64 (-1) :: .bool false :: undef :: undef :: undef :: undef :: undef :: undef :: undef :: undef :: undef :: undef :: .slice (some ⟨gO, 0, none⟩) n n :: .int .i64 ↑n :: .bool false :: undef :: undef :: undef :: undef :: .slice (some ⟨gO, 0, none⟩) n n :: .pointer (some ⟨gO, 0, none⟩) :: .slice (some ⟨gr0, 0, none⟩) n kr0 :: .pointer (some ⟨gr0, 0, none⟩) :: .agg #[.bool (sn (na x0)), .slice Z1 (ln (ab (na x0))) (ln (ab (na x0))), .bool (sn (nb x0)), .slice Z2 (ln (ab (nb x0))) (ln (ab (nb x0))), .slice Z3 (ln (un x0)) (ln (un x0))] :: .int .i64 ↑i :: .slice (some ⟨gO, 0, none⟩) n n :: .int .i64 ↑n :: .bool true :: u48 :: u49 :: V3 0 :: V3 1 :: V3 2 :: V3 3 :: V3 4 :: V3 5 :: V3 6 :: V3 7 :: V3 8 :: x9 :: undef :: undef :: undef :: undef :: undef :: undef :: undef :: []), []⟩ ∧ OnFix l V3 (fun zz => List.getD [.agg #[.bool (sn (na s')), .slice S1 (ln (ab (na s'))) (ln (ab (na s'))), .bool (sn (nb s')), .slice S2 (ln (ab (nb s'))) (ln (ab (nb s'))), .slice S3 (ln (un s')) (ln (un s'))], .iface 34 (.agg #[.bool (sn (na s')), .slice S1 (ln (ab (na s'))) (ln (ab (na s'))), .bool (sn (nb s')), .slice S2 (ln (ab (nb s'))) (ln (ab (nb s'))), .slice S3 (ln (un s')) (ln (un s'))]), .slice (some ⟨gO, 0, none⟩) n n, .int .i64 i, .pointer (some ⟨gO, i, none⟩), .slice (some ⟨gr, 0, none⟩) n kr, .int .i64 i, .pointer (some ⟨gr, i * 5, none⟩), .agg #[.bool (sn (na x)), .slice A1 (ln (ab (na x))) (ln (ab (na x))), .bool (sn (nb x)), .slice A2 (ln (ab (nb x))) (ln (ab (nb x))), .slice A3 (ln (un x)) (ln (un x))], undef, undef] zz undef) [0, 1, 2, 3, 4, 5, 6, 7, 8] ∧ Off l 10 (Below wr.heap.size wr w' ∧ On l 9 (SlotNum w' x9 (s'.mul x))) ∧ On l 10 (HasP w' gd (s'.mul x) ∧ Below W4.heap.size W4 w') ∧ Edg l [(10, 9), (9, 1), (1, 0), (9, 8), (8, 7), (7, 5)] ∧ l.size = 11) ?_ ?_ _ _ _ _ (by decide) ?_
          · intro l a' W' i hi hI
            obtain ⟨V3, x9, rfl, hv, hZ, hM0, hE, hz⟩ := hI
            obtain ⟨hlt, hoff, hpre⟩ := ready_pre hi
            have hc : i ∈ [0, 1, 2, 3, 4, 5, 6, 7, 8, 9, 10] := (by decide : ∀ i, i < 11 → i ∈ [0, 1, 2, 3, 4, 5, 6, 7, 8, 9, 10]) i hlt
            simp only [List.mem_cons, List.not_mem_nil, or_false] at hc
            clear hi hlt
            rcases hc with rfl | rfl | rfl | rfl | rfl | rfl | rfl | rfl | rfl | rfl | rfl <;> (have hp := hpre _ rfl; simp [Region.binds] at hp; clear hpre)
            · skip
              have HV := Lib.hid hv
              clear hv
              have hY := hZ.get (fun h => off hoff (hE.get 1 0 (by decide) (hE.get 9 1 (by decide) (hE.get 10 9 (by decide) h))))
              obtain ⟨z0, z1, z2, z3, z4⟩ := hsc
              have y0 := keepc hY.1 z0 hls; have y1 := keepc hY.1 z1 hls; have y2 := keepc hY.1 z2 hls; have y3 := keepc hY.1 z3 hls; have y4 := keepc hY.1 z4 hls
              refine wpOp_go rfl rfl (fun K hK => ?_)
              go_simp
              refine hK _ _ ?_
              exact ⟨_, _, rfl, HV.out.new (x := .agg #[.bool (sn (na s')), .slice S1 (ln (ab (na s'))) (ln (ab (na s'))), .bool (sn (nb s')), .slice S2 (ln (ab (nb s'))) (ln (ab (nb s'))), .slice S3 (ln (un s')) (ln (un s'))]) rfl, hZ.keep.map (fun ⟨hb0, y9⟩ => ⟨hb0, y9.keep (by decide)⟩), hM0.keep (by decide), hE.mono (by decide), by simp [hz]⟩
            · skip
              have e0 : V3 0 = .agg #[.bool (sn (na s')), .slice S1 (ln (ab (na s'))) (ln (ab (na s'))), .bool (sn (nb s')), .slice S2 (ln (ab (nb s'))) (ln (ab (nb s'))), .slice S3 (ln (un s')) (ln (un s'))] := hv.get 0 (by decide) (by simp [hp])
              have HV := Lib.hid (hv.fixE e0 rfl)
              clear hv
              simp only [e0]
              refine wpOp_go rfl rfl (fun K hK => ?_)
              go_simp
              refine hK _ _ ?_
              exact ⟨_, _, rfl, HV.out.new (x := .iface 34 (.agg #[.bool (sn (na s')), .slice S1 (ln (ab (na s'))) (ln (ab (na s'))), .bool (sn (nb s')), .slice S2 (ln (ab (nb s'))) (ln (ab (nb s'))), .slice S3 (ln (un s')) (ln (un s'))])) rfl, hZ.keep.map (fun ⟨hb0, y9⟩ => ⟨hb0, y9.keep (by decide)⟩), hM0.keep (by decide), hE.step (by simp [hp]), by simp [hz]⟩
            · skip
              have HV := Lib.hid hv
              clear hv
              refine wpOp_go rfl rfl (fun K hK => ?_)
              go_simp
              refine hK _ _ ?_
              exact ⟨_, _, rfl, HV.out.new (x := .slice (some ⟨gO, 0, none⟩) n n) rfl, hZ.keep.map (fun ⟨hb0, y9⟩ => ⟨hb0, y9.keep (by decide)⟩), hM0.keep (by decide), hE.mono (by decide), by simp [hz]⟩
            · skip
              have HV := Lib.hid hv
              clear hv
              refine wpOp_go rfl rfl (fun K hK => ?_)
              go_simp
              refine hK _ _ ?_
              exact ⟨_, _, rfl, HV.out.new (x := .int .i64 i) rfl, hZ.keep.map (fun ⟨hb0, y9⟩ => ⟨hb0, y9.keep (by decide)⟩), hM0.keep (by decide), hE.mono (by decide), by simp [hz]⟩
            · skip
              have e2 : V3 2 = .slice (some ⟨gO, 0, none⟩) n n := hv.get 2 (by decide) (by simp [hp])
              have e3 : V3 3 = .int .i64 i := hv.get 3 (by decide) (by simp [hp])
              have HV := Lib.hid ((hv.fixE e2 rfl).fixE e3 rfl)
              clear hv
              simp only [e2, e3]
              refine wpOp_go rfl rfl (fun K hK => ?_)
              go_simp
              refine hK _ _ ?_
              exact ⟨_, _, rfl, HV.out.new (x := .pointer (some ⟨gO, i, none⟩)) rfl, hZ.keep.map (fun ⟨hb0, y9⟩ => ⟨hb0, y9.keep (by decide)⟩), hM0.keep (by decide), hE.mono (by decide), by simp [hz]⟩
            · skip
              have e4 : V3 4 = .pointer (some ⟨gO, i, none⟩) := hv.get 4 (by decide) (by simp [hp])
              have HV := Lib.hid (hv.fixE e4 rfl)
              clear hv
              simp only [e4]
              have hY := hZ.get (fun h => off hoff (hE.get 7 5 (by decide) (hE.get 8 7 (by decide) (hE.get 9 8 (by decide) (hE.get 10 9 (by decide) h)))))
              have z := keepc hY.1 r1 hlO
              refine wpOp_go rfl rfl (fun K hK => ?_)
              go_simp
              refine hK _ _ ?_
              exact ⟨_, _, rfl, HV.out.new (x := .slice (some ⟨gr, 0, none⟩) n kr) rfl, hZ.keep.map (fun ⟨hb0, y9⟩ => ⟨hb0, y9.keep (by decide)⟩), hM0.keep (by decide), hE.mono (by decide), by simp [hz]⟩
            · skip
              have HV := Lib.hid hv
              clear hv
              refine wpOp_go rfl rfl (fun K hK => ?_)
              go_simp
              refine hK _ _ ?_
              exact ⟨_, _, rfl, HV.out.new (x := .int .i64 i) rfl, hZ.keep.map (fun ⟨hb0, y9⟩ => ⟨hb0, y9.keep (by decide)⟩), hM0.keep (by decide), hE.mono (by decide), by simp [hz]⟩
            · skip
              have e5 : V3 5 = .slice (some ⟨gr, 0, none⟩) n kr := hv.get 5 (by decide) (by simp [hp])
              have e6 : V3 6 = .int .i64 i := hv.get 6 (by decide) (by simp [hp])
              have HV := Lib.hid ((hv.fixE e5 rfl).fixE e6 rfl)
              clear hv
              simp only [e5, e6]
              refine wpOp_go rfl rfl (fun K hK => ?_)
              go_simp
              refine hK _ _ ?_
              exact ⟨_, _, rfl, HV.out.new (x := .pointer (some ⟨gr, i * 5, none⟩)) rfl, hZ.keep.map (fun ⟨hb0, y9⟩ => ⟨hb0, y9.keep (by decide)⟩), hM0.keep (by decide), hE.step (by simp [hp]), by simp [hz]⟩
            · skip
              have e7 : V3 7 = .pointer (some ⟨gr, i * 5, none⟩) := hv.get 7 (by decide) (by simp [hp])
              have HV := Lib.hid (hv.fixE e7 rfl)
              clear hv
              simp only [e7]
              have hY := hZ.get (fun h => off hoff (hE.get 9 8 (by decide) (hE.get 10 9 (by decide) h)))
              obtain ⟨z0, z1, z2, z3, z4⟩ := hcs
              have y0 := keepc hY.1 z0 r2; have y1 := keepc hY.1 z1 r2; have y2 := keepc hY.1 z2 r2; have y3 := keepc hY.1 z3 r2; have y4 := keepc hY.1 z4 r2
              refine wpOp_go rfl rfl (fun K hK => ?_)
              go_simp
              refine hK _ _ ?_
              exact ⟨_, _, rfl, HV.out.new (x := .agg #[.bool (sn (na x)), .slice A1 (ln (ab (na x))) (ln (ab (na x))), .bool (sn (nb x)), .slice A2 (ln (ab (nb x))) (ln (ab (nb x))), .slice A3 (ln (un x)) (ln (un x))]) rfl, hZ.keep.map (fun ⟨hb0, y9⟩ => ⟨hb0, y9.keep (by decide)⟩), hM0.keep (by decide), hE.step (by simp [hp]), by simp [hz]⟩
            · skip
              have e1 : V3 1 = .iface 34 (.agg #[.bool (sn (na s')), .slice S1 (ln (ab (na s'))) (ln (ab (na s'))), .bool (sn (nb s')), .slice S2 (ln (ab (nb s'))) (ln (ab (nb s'))), .slice S3 (ln (un s')) (ln (un s'))]) := hv.get 1 (by decide) (by simp [hp])
              have e8 : V3 8 = .agg #[.bool (sn (na x)), .slice A1 (ln (ab (na x))) (ln (ab (na x))), .bool (sn (nb x)), .slice A2 (ln (ab (nb x))) (ln (ab (nb x))), .slice A3 (ln (un x)) (ln (un x))] := hv.get 8 (by decide) (by simp [hp])
              have HV := Lib.hid ((hv.fixE e1 rfl).fixE e8 rfl)
              clear hv
              simp only [e1, e8]
              have hY := hZ.get (fun h => off hoff (hE.get 10 9 (by decide) h))
              refine wpOp_go rfl rfl (fun K hK => ?_)
              go_wp2_with (first | (go_at_call 10; refine (mul_num s' x S1 S2 S3 A1 A2 A3 _ (hsn.to hY.1) (hN.to hY.1) ZZ.out.1 ZZ.out.2).mono ?_; rintro e w8 ⟨E1, E2, E3, rfl, hNN, hb⟩))
              try refine hK _ _ ?_
              exact ⟨_, _, rfl, HV.out.other (by decide), Off.new ⟨hY.1.trans (hb.mono hY.1.size), On.new (⟨E1, E2, E3, rfl, hNN⟩)⟩, fun h => absurd (hE.get 10 9 (by decide) (on_ne h (by decide))) (off hoff), hE.step (by simp [hp]), by simp [hz]⟩
            · skip
              have HV := Lib.hid hv
              clear hv
              have hY := hZ.get (off hoff)
              obtain ⟨E1, E2, E3, e1, hNN⟩ := hY.2.get (by simp [hp])
              subst e1
              have hv6 := (hD.to hY.1).var
              have hv5 := hv6
              obtain ⟨_, ⟨cc, u1, u2, u3, u4, d0, d1, d2, d3, d4⟩, ⟨f0, f1, f2, f3, f4⟩⟩ := hv5
              refine wpOp_go rfl rfl (fun K hK => ?_)
              go_simp
              refine hK _ _ ?_
              obtain ⟨XX, hX⟩ : ∃ XX : World, XX = set5 W' gd (s'.mul x) E1 E2 E3 := ⟨_, rfl⟩
              have hw : set5 W' gd (s'.mul x) E1 E2 E3 = XX := hX.symm
              unfold set5 at hw
              rw [hw]
              subst hX
              exact ⟨_, _, rfl, HV.out.other (by decide), Off.done (by omega), On.new (⟨hv6.putP hNN, set5_below (HBW.out.trans (hY.1.mono HBW.out.size)) (by rw [HGD.out]; exact Nat.le_refl _)⟩), hE.step (by simp [hp]), by simp [hz]⟩
          · intro l a' W' hr hI
            obtain ⟨V3, x9, rfl, hv, hZ, hM0, hE, hz⟩ := hI
            have a0 := not_ready (i := 0) hr hz rfl (by simp [Region.binds])
            have a1 := not_ready (i := 1) hr hz rfl (by simp [Region.binds, a0])
            have a2 := not_ready (i := 2) hr hz rfl (by simp [Region.binds, a0, a1])
            have a3 := not_ready (i := 3) hr hz rfl (by simp [Region.binds, a0, a1, a2])
            have a4 := not_ready (i := 4) hr hz rfl (by simp [Region.binds, a0, a1, a2, a3])
            have a5 := not_ready (i := 5) hr hz rfl (by simp [Region.binds, a0, a1, a2, a3, a4])
            have a6 := not_ready (i := 6) hr hz rfl (by simp [Region.binds, a0, a1, a2, a3, a4, a5])
            have a7 := not_ready (i := 7) hr hz rfl (by simp [Region.binds, a0, a1, a2, a3, a4, a5, a6])
            have a8 := not_ready (i := 8) hr hz rfl (by simp [Region.binds, a0, a1, a2, a3, a4, a5, a6, a7])
            have a9 := not_ready (i := 9) hr hz rfl (by simp [Region.binds, a0, a1, a2, a3, a4, a5, a6, a7, a8])
            have a10 := not_ready (i := 10) hr hz rfl (by simp [Region.binds, a0, a1, a2, a3, a4, a5, a6, a7, a8, a9])
            have hY := hM0.get a10
            clear hr hz hv hZ a0 a1 a2 a3 a4 a5 a6 a7 a8 a9 a10 hM0 hE
            go_wp2_with fail
            go_roundw
            case rel => exact ⟨i + 1, by omega, by omega, by go_num, by rw [← HNEW.out]; exact hY.1, hY.2⟩
            case measure => simp [intOf]; omega
          · exact ⟨fun zz => List.getD [u50, u51, u52, u53, u54, u55, u56, u57, u58, u59, undef] zz undef, _, rfl, OnFix.start, Off.new ⟨((Below.refl _ _).drew), fun h => absurd h (by decide)⟩, fun h => absurd h (by decide), Edg.start, by simp⟩
        · obtain rfl : i = n := by omega
          have hvF := hv.to hbw
          have HBF := Lib.hid (HB.out.trans (hbw.mono HB.out.size))
          have hq := HQ.out
          unfold detV at hq
          rw [if_neg (show ¬ (0 : Int) ≤ -1 by decide), if_neg HN0.out] at hq
          obtain ⟨x, hx⟩ : ∃ x, x = dgp g (i - 1) := ⟨_, rfl⟩
          rw [← hx] at hD
          simp only [← hx] at hq
          obtain ⟨r2, hr2⟩ : ∃ r, r = s % 2 := ⟨_, rfl⟩
          have q1 : (s : Int).tmod 2 = (r2 : Int) := by rw [hr2]; rfl
          by_cases hodd : s % 2 = 1
          · have t2 : ((r2 : Int) == 1) = true := by rw [beq_iff_eq]; omega
            have e1 : q = x.neg := by rw [hq]; unfold sgn; rw [if_pos hodd]
            obtain ⟨X1, X2, X3, ⟨d0, d1, d2, d3, d4⟩, hNX⟩ := hD.slot
            have lsd := hD.1
            have HD2 := Lib.hid hD
            have HE1 := Lib.hid e1
            clear hodd hr2 hq hx e1 hD hbw
            go_wp2_with fail
            refine (neg_any x X1 X2 X3 _ hNX).mono ?_
            rintro e w7 ⟨E1, E2, E3, rfl, hNE, hb⟩
            have hvd := (HD2.out.to hb).var
            have hvd2 := hvd
            obtain ⟨l7, ⟨cc, v1, v2, v3, v4, c0, c1, c2, c3, c4⟩, ⟨f0, f1, f2, f3, f4⟩⟩ := hvd
            have hvG := hvF.to hb
            have HBG := Lib.hid (HBF.out.trans (hb.mono HBF.out.size))
            clear hb d0 d1 d2 d3 d4 hNX lsd HD2 hvF HBF
            go_upto_region 19 with fail
            obtain ⟨W8, hW8⟩ : ∃ X : World, X = set5 w7 gd x.neg E1 E2 E3 := ⟨_, rfl⟩
            have hw : set5 w7 gd x.neg E1 E2 E3 = W8 := hW8.symm
            unfold set5 at hw
            rw [hw]
            have hD := hvd2.putP hNE
            rw [← HE1.out] at hD hW8
            have hgne : g2 ≠ gd := by
              have h1 := HV2.out
              rw [HGD.out]
              omega
            have hvF := hvG.set5 (q := q) (A1 := E1) (A2 := E2) (A3 := E3) hgne
            have HBF : Hid (Below w.heap.size w W8) := Lib.hid (by rw [hW8]; exact set5_below HBG.out (by rw [HGD.out]; exact HB.out.size))
            rw [← hW8] at hD hvF
            clear hw hW8 hvd2 c0 c1 c2 c3 c4 f0 f1 f2 f3 f4 l7 hNE hvG HBG hgne
            obtain ⟨X1, X2, X3, hsc, hNX⟩ := hD.slot
            have lsd := hD.1
            obtain ⟨d0, d1, d2, d3, d4⟩ := hsc
            obtain ⟨l2, ⟨cc, v1, v2, v3, v4, c0, c1, c2, c3, c4⟩, ⟨f0, f1, f2, f3, f4⟩⟩ := hvF
            clear hD
            go_wp2_with fail
            exact bodyPost_ret (v := .tuple #[.agg #[.bool (sn (na q)), .slice X1 (ln (ab (na q))) (ln (ab (na q))), .bool (sn (nb q)), .slice X2 (ln (ab (nb q))) (ln (ab (nb q))), .slice X3 (ln (un q)) (ln (un q))], .int .i64 0]) (by simp [results, Try.results9, go_sem, c0, c1, c2, c3, c4, f0, f1, f2, f3, f4]) rfl (retNumE_fin HBF hNX HG2.out c0)
          · have t2 : ((r2 : Int) == 1) = false := by rw [beq_eq_false_iff_ne]; omega
            have e1 : q = x := by rw [hq]; unfold sgn; rw [if_neg hodd]
            rw [← e1] at hD
            clear hodd hr2 hq hx hbw e1
            go_upto_region 19 with fail
            obtain ⟨X1, X2, X3, hsc, hNX⟩ := hD.slot
            have lsd := hD.1
            obtain ⟨d0, d1, d2, d3, d4⟩ := hsc
            obtain ⟨l2, ⟨cc, v1, v2, v3, v4, c0, c1, c2, c3, c4⟩, ⟨f0, f1, f2, f3, f4⟩⟩ := hvF
            clear hD
            go_wp2_with fail
            exact bodyPost_ret (v := .tuple #[.agg #[.bool (sn (na q)), .slice X1 (ln (ab (na q))) (ln (ab (na q))), .bool (sn (nb q)), .slice X2 (ln (ab (nb q))) (ln (ab (nb q))), .slice X3 (ln (un q)) (ln (un q))], .int .i64 0]) (by simp [results, Try.results9, go_sem, c0, c1, c2, c3, c4, f0, f1, f2, f3, f4]) rfl (retNumE_fin HBF hNX HG2.out c0)
end Go.Proofs.Ytdpjknjlhchmcaa

namespace Go.Proofs.Ytdpjknjlhchmcaa
open Go.RowKit Pl
set_option linter.unusedVariables false
set_option linter.unusedSimpArgs false
theorem run_copy5 (w : World) (dT sT ty elem : TypeId) (g o dLen dCap : Nat) (a : Addr) (sLen sCap m : Nat) (cur : Array Value) (t : TypeId) (cs : List Value)
    (hu : Try.prog.underlying dT = some (.slice elem)) (hs : (Try.prog.info? elem).map (·.size) = some 5)
    (hg : w.heap[g]? = some (.cells cur t (0, 0))) (hm : Nat.min sLen dLen = m) (hn : cs.length = m * 5)
    (hsrc : ∀ j v, cs[j]? = some v → w.cell? (a.add j) = some v) (hfit : o + cs.length ≤ cur.size) (h1 : ∀ v ∈ cs, v.oneCell' = true) :
    (Builtin.copy_ #[dT, sT] ty #[.slice (some ⟨g, o, none⟩) dLen dCap, .slice (some a) sLen sCap]).run Try.prog w =
      .ok (goInt m) (w.setRow g (cur.toList.take o ++ cs ++ cur.toList.drop (o + cs.length)).toArray) := by
  have hl := run_loadCells_list (P := Try.prog) w a cs hsrc
  have hst := run_storeCells_at Try.prog g o t cs 0 cur w hg (by simpa using hfit) h1
  cases hq : Try.prog.info? elem with
  | none => simp [hq] at hs
  | some i =>
    have hi : i.size = 5 := by simpa [hq] using hs
    simp [Builtin.copy_, run_underlying hu, Builtin.lenOf, Builtin.firstCells, sizeOf, typeInfo, hq, hi, hm, ← hn, hl, hst]
/-- 'copy', by what it is known to do. -/
theorem wp_copy_run5 {P : Program} {o : Oper} {a : Act} {w w' : World} {K : Act → World → Prop} {Q : Exit → Act → World → Prop} {s x : Operand} {t : TypeId} {v1 v2 v' : Value}
    (ho : o.op = .call { callee := .builtin .copy, args := #[s, x], argTypes := #[t, t] }) (hs : a.eval s = v1) (hx : a.eval x = v2) (hr : (Builtin.copy_ #[t, t] o.type #[v1, v2]).run P w = .ok v' w') (h : K (a.put o.dst v') w') : o.wp P a w K Q := by
  unfold Oper.wp execOp
  simp only [ho, resolve, invoke, builtin, Sem.run_bind, Sem.run_pure, Result.andThen_ok, List.map_toArray, List.map_cons, List.map_nil, hs, hx, hr]
  exact h
/-- The first n elements of a block of c elements hold the five values. -/
def Rep5 (w : World) (g c n : Nat) (vs : List Value) : Prop := ∃ cur : Array Value, w.heap[g]? = some (.cells cur 34 (0, 0)) ∧ cur.size = c * 5 ∧ ∀ k j, k < n → j < 5 → cur[k * 5 + j]? = vs[j]?
theorem Rep5.grow {w : World} {g c n m : Nat} {vs : List Value} {cur : Array Value} (hg : w.heap[g]? = some (.cells cur 34 (0, 0))) (hc : cur.size = c * 5) (hk : ∀ k j, k < n → j < 5 → cur[k * 5 + j]? = vs[j]?) (cs : List Value) (hcs : cs.length = m * 5) (hm : ∀ k j, k < m → j < 5 → cs[k * 5 + j]? = vs[j]?) (hnm : n + m ≤ c) :
    Rep5 (w.setRow g (cur.toList.take (n * 5) ++ cs ++ cur.toList.drop (n * 5 + cs.length)).toArray) g c (n + m) vs := by
  refine ⟨_, setRow_heap w g cur _ 34 (0, 0) hg, ?_, fun k j hk2 hj => ?_⟩
  · simp [hcs, hc]; omega
  · have hl : (cur.toList.take (n * 5)).length = n * 5 := by simp [hc]; omega
    by_cases e : k < n
    · rw [List.getElem?_toArray, List.append_assoc, List.getElem?_append_left (by omega), List.getElem?_take_of_lt (by omega), Array.getElem?_toList]
      exact hk k j e hj
    · rw [List.getElem?_toArray, List.append_assoc, List.getElem?_append_right (by omega), hl, List.getElem?_append_left (by omega)]
      have := hm (k - n) j (by omega) hj
      rw [← this]
      congr 1
      omega
theorem Rep5.to {w w' : World} {g c n : Nat} {vs : List Value} (h : Rep5 w g c n vs) (hb : Below w.heap.size w w') : Rep5 w' g c n vs := by
  obtain ⟨cur, h1, h2, h3⟩ := h
  have hl : g < w.heap.size := by
    by_cases h : g < w.heap.size
    · exact h
    · rw [Array.getElem?_eq_none (by omega)] at h1; cases h1
  exact ⟨cur, (hb.block g hl).trans h1, h2, h3⟩
theorem below_setRow {B g : Nat} {a w : World} {cs : Array Value} (h : Below B a w) (hg : B ≤ g) : Below B a (w.setRow g cs) := by
  refine ⟨h.os, h.tape, h.output, by simpa [World.setRow] using h.size, fun k hk => ?_⟩
  have e : k ≠ g := by omega
  rw [← h.block k hk]
  simp [World.setRow, Array.getElem?_modify, Ne.symm e]
theorem bits_mul1 (c : Nat) (hc : c ≤ 1000) (w : World) : Calls Try.prog 68 #[.int .u64 1, .int .u64 c] w fun e w' => e = .returned (.tuple #[.int .u64 0, .int .u64 c]) ∧ w' = w := by
  refine (Try.bits_Mul 1 c (by omega) (by omega) w).mono ?_
  rintro e w' ⟨rfl, rfl⟩
  refine ⟨?_, rfl⟩
  rw [Nat.one_mul, show c / 18446744073709551616 = 0 by omega, show c % 18446744073709551616 = c by omega]
  rfl
theorem copy_rep {w : World} {g c k mn : Nat} {vs : List Value} {q : Cx} {A1 A2 A3 : Option Addr} {cur : Array Value} (hg : w.heap[g]? = some (.cells cur 34 (0, 0))) (hsz : cur.size = c * 5) (hcur : ∀ a j, a < k → j < 5 → cur[a * 5 + j]? = vs[j]?)
    (hv : vs = [.bool (sn (na q)), .slice A1 (ln (ab (na q))) (ln (ab (na q))), .bool (sn (nb q)), .slice A2 (ln (ab (nb q))) (ln (ab (nb q))), .slice A3 (ln (un q)) (ln (un q))]) (hmn : mn = Nat.min k (c - k)) (h1 : 1 ≤ mn) (hk1 : 1 ≤ k) (hlt : k < c) :
    ∃ W' : World, (Builtin.copy_ #[42, 42] 3 #[.slice (some ⟨g, k * 5, none⟩) (c - k) (c - k), .slice (some ⟨g, 0, none⟩) k c]).run Try.prog w = .ok (.int .i64 mn) W' ∧ Rep5 W' g c (k + mn) vs ∧ ∀ (B : Nat) (a : World), Below B a w → B ≤ g → Below B a W' := by
  have h2 : mn ≤ k ∧ mn ≤ c - k := by rw [hmn]; show min k (c - k) ≤ k ∧ min k (c - k) ≤ c - k; omega
  have hl : (cur.toList.take (mn * 5)).length = mn * 5 := by simp [hsz]; omega
  obtain ⟨ti, ki, kz, ks, kb⟩ := info_parts Try.info_num
  have hs5 : (Try.prog.info? 34).map (·.size) = some 5 := by rw [ki]; simp [ks]
  have hcs : ∀ a j, a < mn → j < 5 → (cur.toList.take (mn * 5))[a * 5 + j]? = vs[j]? := fun a j ha hj => by
    rw [List.getElem?_take_of_lt (by omega), Array.getElem?_toList]; exact hcur a j (by omega) hj
  refine ⟨_, ?_, Rep5.grow hg hsz hcur _ hl hcs (by omega), fun B a h1 h2 => below_setRow h1 h2⟩
  refine run_copy5 w 42 42 3 34 g (k * 5) (c - k) (c - k) ⟨g, 0, none⟩ k c mn cur 34 _ Try.und_nums hs5 hg hmn.symm hl (fun j v hj => ?_) (by rw [hl, hsz]; omega) (fun v hv2 => ?_)
  · rw [add_none j rfl, Nat.zero_add]
    have hj2 : j < mn * 5 := by
      rw [← hl]; exact (List.getElem?_eq_some_iff.1 hj).1
    rw [List.getElem?_take_of_lt hj2, Array.getElem?_toList] at hj
    simp [World.cell?, hg, hj]
  · obtain ⟨j, hj, rfl⟩ := List.getElem_of_mem hv2
    have hj2 : j < mn * 5 := by rw [← hl]; exact hj
    have e := hcs (j / 5) (j % 5) (by omega) (by omega)
    rw [show j / 5 * 5 + j % 5 = j by omega, List.getElem?_eq_getElem hj] at e
    have : j % 5 = 0 ∨ j % 5 = 1 ∨ j % 5 = 2 ∨ j % 5 = 3 ∨ j % 5 = 4 := by omega
    rw [hv] at e
    rcases this with h | h | h | h | h <;> (rw [h] at e; simp only [List.getElem?_cons_zero, List.getElem?_cons_succ, Option.some.injEq] at e; rw [e]; rfl)
theorem Rep5.lt {w : World} {g c n : Nat} {vs : List Value} (h : Rep5 w g c n vs) : g < w.heap.size := by
  obtain ⟨cur, h1, _⟩ := h
  by_cases h : g < w.heap.size
  · exact h
  · rw [Array.getElem?_eq_none (by omega)] at h1; cases h1
def RetRep (w : World) (c : Nat) (q : Cx) (e : Ending) (w' : World) : Prop := ∃ g, e = .returned (.slice (some ⟨g, 0, none⟩) c c) ∧ w.heap.size ≤ g ∧ RowB w' g 34 (c * 5) ∧ (∀ k, k < c → PE w' g (k * 5) q) ∧ Below w.heap.size w w'
set_option maxRecDepth 100000 in
set_option maxHeartbeats 40000000 in
theorem repeat_any (w : World) (b c : Nat) (q : Cx) (hq : PE w b 0 q) (h0 : 0 < c) (hc : c ≤ 1000) :
    Calls Try.prog 48 #[.slice (some ⟨b, 0, none⟩) 1 1, .int .i64 c] w (RetRep w c q) := by
  have hmk := mk_nums c (by omega) w
  have hlb := hq.lt
  have hbel := mkN_below w c 34
  obtain ⟨⟨F0, cur0, hgrow, hsz, _⟩, _⟩ := mkN_row w c 34 h0
  have t1 : decide ((c : Int) < 0) = false := by rw [decide_eq_false_iff_not]; omega
  have w1 : IntKind.u64.wrap (c : Int) = c := by rw [IntKind.wrap_u64]; omega
  have w2 : IntKind.i64.wrap (c : Int) = c := by rw [IntKind.wrap_i64]; omega
  have w3 : IntKind.u64.wrap (1 : Int) = 1 := by rw [IntKind.wrap_u64]; omega
  have t2 : decide ((9223372036854775807 : Int) < (c : Int)) = false := by rw [decide_eq_false_iff_not]; omega
  obtain ⟨A1, A2, A3, ⟨c0, c1, c2, c3, c4⟩, hn⟩ := hq
  replace c0 := keepc hbel c0 hlb; replace c1 := keepc hbel c1 hlb; replace c2 := keepc hbel c2 hlb; replace c3 := keepc hbel c3 hlb; replace c4 := keepc hbel c4 hlb
  obtain ⟨vs, hvs⟩ : ∃ vs : List Value, vs = [.bool (sn (na q)), .slice A1 (ln (ab (na q))) (ln (ab (na q))), .bool (sn (nb q)), .slice A2 (ln (ab (nb q))) (ln (ab (nb q))), .slice A3 (ln (un q)) (ln (un q))] := ⟨_, rfl⟩
  have hsrc : ∀ j v, vs[j]? = some v → (mkN w c 34).cell? ((⟨b, 0, none⟩ : Addr).add j) = some v := by
    intro j v hj
    rw [add_none j rfl, Nat.zero_add]
    rw [hvs] at hj
    match j, hj with
    | 0, hj => simp at hj; rw [← hj]; exact c0
    | 1, hj => simp at hj; rw [← hj]; exact c1
    | 2, hj => simp at hj; rw [← hj]; exact c2
    | 3, hj => simp at hj; rw [← hj]; exact c3
    | 4, hj => simp at hj; rw [← hj]; exact c4
    | j + 5, hj => simp at hj
  have hlen : vs.length = 5 := by rw [hvs]; rfl
  have hone : ∀ v ∈ vs, v.oneCell' = true := by
    intro v hv
    rw [hvs] at hv
    simp only [List.mem_cons, List.not_mem_nil, or_false] at hv
    rcases hv with rfl | rfl | rfl | rfl | rfl <;> rfl
  obtain ⟨ti, ki, kz, ks, kb⟩ := info_parts Try.info_num
  have hs5 : (Try.prog.info? 34).map (·.size) = some 5 := by rw [ki]; simp [ks]
  have er := run_copy5 (mkN w c 34) 42 42 3 34 w.heap.size 0 c c ⟨b, 0, none⟩ 1 1 1 cur0 34 vs Try.und_nums hs5 hgrow (by show Nat.min 1 c = 1; exact Nat.min_eq_left (by omega)) (by rw [hlen]) hsrc (by rw [hlen, hsz]; omega) hone
  have hR1 := Rep5.grow (n := 0) (m := 1) (c := c) (vs := vs) hgrow hsz (fun k j hk _ => absurd hk (Nat.not_lt_zero _)) vs (by rw [hlen]) (fun k j hk hj => by
    have : k = 0 := by omega
    subst this; simp) (by omega)
  have hB1 := below_setRow (cs := (cur0.toList.take (0 * 5) ++ vs ++ cur0.toList.drop (0 * 5 + vs.length)).toArray) hbel (Nat.le_refl _)
  simp only [Nat.zero_mul, Nat.zero_add] at hR1 hB1 er
  obtain ⟨W1, hW1⟩ : ∃ W1 : World, W1 = (mkN w c 34).setRow w.heap.size (List.take 0 cur0.toList ++ vs ++ List.drop vs.length cur0.toList).toArray := ⟨_, rfl⟩
  rw [← hW1] at er hR1 hB1
  clear hW1
  have HVS := Lib.hid hvs; have HN := Lib.hid hn
  have HER := Lib.hid er
  clear c0 c1 c2 c3 c4 hsrc hgrow hbel hvs hsz er kz ki kb ks hn
  go_enter Try.func48, Try.ntmps48
  go_wp2_with fail
  refine (bits_mul1 c hc _).mono ?_
  rintro e w2' ⟨rfl, rfl⟩
  go_upto_region 7 with fail
  clear hmk w1 w2 w3 t1 t2
  go_wp2_with (at_builtin; go_loud (refine wpList_plain rfl fun _ hK => wp_copy_run5 rfl rfl rfl HER.out (hK _ _ ?_)))
  rw [HER.out]
  go_wp2_with fail
  clear HER
  obtain ⟨g, hg⟩ : ∃ g, g = w2'.heap.size := ⟨_, rfl⟩
  rw [← hg] at hR1 ⊢
  have HG := Lib.hid hg
  have hB2 : Below g w2' W1 := by rw [hg]; exact hB1
  clear hg hB1
  go_wp2_with fail
  go_loopw [8] (fun v (wr : World) => ∃ k : Nat, 1 ≤ k ∧ k ≤ c ∧ v = .int .i64 k ∧ Rep5 wr g c k vs ∧ Below g w2' wr) (fun v _ => c - (intOf v).toNat)
  case atStart => exact ⟨1, Nat.le_refl _, h0, rfl, hR1, hB2⟩
  case round =>
    obtain ⟨k, hk1, hk, rfl, hR, hB⟩ := hrel
    clear hR1 hB2
    by_cases hlt : k < c
    · have hRk := hR
      obtain ⟨cur, hg1, hsz, hcur⟩ := hR
      obtain ⟨mn, hmn⟩ : ∃ mn, mn = Nat.min k (c - k) := ⟨_, rfl⟩
      have hmn1 : 1 ≤ mn := by rw [hmn]; show 1 ≤ min k (c - k); omega
      have hmn2 : mn ≤ k ∧ mn ≤ c - k := by rw [hmn]; show min k (c - k) ≤ k ∧ min k (c - k) ≤ c - k; omega
      have i1 : (0 : Int) ≤ (k : Int) := by omega
      have i2 : (k : Int) ≤ (c : Int) := by omega
      have i5 : ¬ c = k := by omega
      obtain ⟨kn, hkn⟩ : ∃ kn, kn = k + mn := ⟨_, rfl⟩
      have hwr : IntKind.i64.wrap ((k : Int) + (mn : Int)) = (kn : Int) := by rw [IntKind.wrap_i64, hkn]; omega
      have HKN := Lib.hid hkn
      have HMN := Lib.hid hmn
      clear hkn
      have HRK := Lib.hid hRk; have HBB := Lib.hid hB
      clear hmn hRk hB hcur hg1 hsz
      go_upto_region 9 with fail
      refine wp_region_any (by kernel_rfl) ?_
      refine wpAny_inv (fun l a' w' => ∃ V : Nat → Value, ∃ x7 x9 : Value, a' = ⟨#[.slice (some ⟨b, 0, none⟩) 1 1, .int .i64 ↑c, undef, undef, .slice none 0 0, .int .u64 0, .int .u64 ↑c, .slice (some ⟨g, 0, none⟩) c c, x9, .int .i64 ↑c, .bool false, undef, .tuple #[.int .u64 0, .int .u64 ↑c], .slice (some ⟨b, 0, none⟩) 1 1, .int .i64 1, .int .u64 1, .int .i64 ↑c, .int .u64 ↑c, .tuple #[.int .u64 0, .int .u64 ↑c], .int .u64 0, .int .u64 ↑c, .int .u64 0, .bool false, .bool false, .int .u64 ↑c, .bool false, .bool false, undef, .int .u64 ↑c, .int .i64 ↑c, .slice (some ⟨g, 0, none⟩) c c, .slice (some ⟨g, 0, none⟩) c c, .slice (some ⟨b, 0, none⟩) 1 1, .int .i64 1, .int .i64 ↑k, .slice (some ⟨g, 0, none⟩) c c, .int .i64 ↑c, .bool true, V 0, V 1, V 2, V 3, V 4, V 5, V 6, x7, V 8, undef], []⟩ ∧ OnFix l V (fun zz => List.getD [.int .i64 k, .slice (some ⟨g, 0, none⟩) c c, .int .i64 k, .slice (some ⟨g, k * 5, none⟩) (c - k) (c - k), .slice (some ⟨g, 0, none⟩) c c, .int .i64 k, .slice (some ⟨g, 0, none⟩) k c, undef, .int .i64 kn, undef] zz undef) [0, 1, 2, 3, 4, 5, 6, 8] ∧ Off l 7 (Below wr.heap.size wr w') ∧ On l 7 (x7 = .int .i64 mn ∧ Rep5 w' g c kn vs ∧ Below g w2' w') ∧ Off l 9 (x9 = .int .i64 k) ∧ On l 9 (x9 = .int .i64 kn) ∧ Edg l [(9, 8), (8, 0), (8, 7), (7, 3), (3, 2), (7, 6), (6, 5)] ∧ l.size = 10) ?_ ?_ _ _ _ _ (by decide) ?_
      · intro l a' W' i hi hI
        obtain ⟨V, x7, x9, rfl, hv, hZ, hM0, hA9, hB9, hE, hz⟩ := hI
        obtain ⟨hlt, hoff, hpre⟩ := ready_pre hi
        have hc : i ∈ [0, 1, 2, 3, 4, 5, 6, 7, 8, 9] := (by decide : ∀ i, i < 10 → i ∈ [0, 1, 2, 3, 4, 5, 6, 7, 8, 9]) i hlt
        simp only [List.mem_cons, List.not_mem_nil, or_false] at hc
        clear hi hlt
        rcases hc with rfl | rfl | rfl | rfl | rfl | rfl | rfl | rfl | rfl | rfl <;> (have hp := hpre _ rfl; simp [Region.binds] at hp; clear hpre)
        · skip
          have HV := Lib.hid hv
          clear hv
          have e0 := hA9.get (fun h => off hoff (hE.get 8 0 (by decide) (hE.get 9 8 (by decide) h))); subst e0
          refine wpOp_go rfl rfl (fun K hK => ?_)
          go_simp
          refine hK _ _ ?_
          exact ⟨_, _, _, rfl, HV.out.new (x := .int .i64 k) rfl, hZ.keep, hM0.keep (by decide), hA9.keep, fun h => absurd (hE.get 8 0 (by decide) (hE.get 9 8 (by decide) (on_ne h (by decide)))) (off hoff), hE.mono (by decide), by simp [hz]⟩
        · skip
          have HV := Lib.hid hv
          clear hv
          refine wpOp_go rfl rfl (fun K hK => ?_)
          go_simp
          refine hK _ _ ?_
          exact ⟨_, _, _, rfl, HV.out.new (x := .slice (some ⟨g, 0, none⟩) c c) rfl, hZ.keep, hM0.keep (by decide), hA9.keep, hB9.keep (j := 1) (by decide), hE.mono (by decide), by simp [hz]⟩
        · skip
          have HV := Lib.hid hv
          clear hv
          have e0 := hA9.get (fun h => off hoff (hE.get 3 2 (by decide) (hE.get 7 3 (by decide) (hE.get 8 7 (by decide) (hE.get 9 8 (by decide) h))))); subst e0
          refine wpOp_go rfl rfl (fun K hK => ?_)
          go_simp
          refine hK _ _ ?_
          exact ⟨_, _, _, rfl, HV.out.new (x := .int .i64 k) rfl, hZ.keep, hM0.keep (by decide), hA9.keep, fun h => absurd (hE.get 3 2 (by decide) (hE.get 7 3 (by decide) (hE.get 8 7 (by decide) (hE.get 9 8 (by decide) (on_ne h (by decide)))))) (off hoff), hE.mono (by decide), by simp [hz]⟩
        · skip
          have e1 : V 1 = .slice (some ⟨g, 0, none⟩) c c := hv.get 1 (by decide) (by simp [hp])
          have e2 : V 2 = .int .i64 k := hv.get 2 (by decide) (by simp [hp])
          have HV := Lib.hid ((hv.fixE e1 rfl).fixE e2 rfl)
          clear hv
          simp only [e1, e2]
          refine wpOp_go rfl rfl (fun K hK => ?_)
          go_simp
          refine hK _ _ ?_
          exact ⟨_, _, _, rfl, HV.out.new (x := .slice (some ⟨g, k * 5, none⟩) (c - k) (c - k)) rfl, hZ.keep, hM0.keep (by decide), hA9.keep, hB9.keep (j := 3) (by decide), hE.step (by simp [hp]), by simp [hz]⟩
        · skip
          have HV := Lib.hid hv
          clear hv
          refine wpOp_go rfl rfl (fun K hK => ?_)
          go_simp
          refine hK _ _ ?_
          exact ⟨_, _, _, rfl, HV.out.new (x := .slice (some ⟨g, 0, none⟩) c c) rfl, hZ.keep, hM0.keep (by decide), hA9.keep, hB9.keep (j := 4) (by decide), hE.mono (by decide), by simp [hz]⟩
        · skip
          have HV := Lib.hid hv
          clear hv
          have e0 := hA9.get (fun h => off hoff (hE.get 6 5 (by decide) (hE.get 7 6 (by decide) (hE.get 8 7 (by decide) (hE.get 9 8 (by decide) h))))); subst e0
          refine wpOp_go rfl rfl (fun K hK => ?_)
          go_simp
          refine hK _ _ ?_
          exact ⟨_, _, _, rfl, HV.out.new (x := .int .i64 k) rfl, hZ.keep, hM0.keep (by decide), hA9.keep, fun h => absurd (hE.get 6 5 (by decide) (hE.get 7 6 (by decide) (hE.get 8 7 (by decide) (hE.get 9 8 (by decide) (on_ne h (by decide)))))) (off hoff), hE.mono (by decide), by simp [hz]⟩
        · skip
          have e4 : V 4 = .slice (some ⟨g, 0, none⟩) c c := hv.get 4 (by decide) (by simp [hp])
          have e5 : V 5 = .int .i64 k := hv.get 5 (by decide) (by simp [hp])
          have HV := Lib.hid ((hv.fixE e4 rfl).fixE e5 rfl)
          clear hv
          simp only [e4, e5]
          refine wpOp_go rfl rfl (fun K hK => ?_)
          go_simp
          refine hK _ _ ?_
          exact ⟨_, _, _, rfl, HV.out.new (x := .slice (some ⟨g, 0, none⟩) k c) rfl, hZ.keep, hM0.keep (by decide), hA9.keep, hB9.keep (j := 6) (by decide), hE.step (by simp [hp]), by simp [hz]⟩
        · skip
          have e3 : V 3 = .slice (some ⟨g, k * 5, none⟩) (c - k) (c - k) := hv.get 3 (by decide) (by simp [hp])
          have e6 : V 6 = .slice (some ⟨g, 0, none⟩) k c := hv.get 6 (by decide) (by simp [hp])
          have HV := Lib.hid ((hv.fixE e3 rfl).fixE e6 rfl)
          clear hv
          simp only [e3, e6]
          have hY := hZ.get (off hoff)
          obtain ⟨cur, hg1, hsz, hcur⟩ := HRK.out.to hY
          obtain ⟨W9, er, hR2, hB9'⟩ := copy_rep hg1 hsz hcur HVS.out HMN.out hmn1 hk1 hlt
          refine wpOp_go rfl rfl (fun K hK => ?_)
          refine wp_copy_run5 rfl rfl rfl er ?_
          go_simp
          refine hK _ _ ?_
          exact ⟨_, _, _, rfl, HV.out.other (by decide), Off.done (by omega), On.new (⟨rfl, by rw [HKN.out]; exact hR2, hB9' _ _ (HBB.out.trans (hY.mono (by have := HRK.out.lt; omega))) (Nat.le_refl _)⟩), hA9.keep, hB9.keep (j := 7) (by decide), hE.step (by simp [hp]), by simp [hz]⟩
        · skip
          have e0 : V 0 = .int .i64 k := hv.get 0 (by decide) (by simp [hp])
          have HV := Lib.hid (hv.fixE e0 rfl)
          clear hv
          simp only [e0]
          have hx7 := (hM0.get (by simp [hp])).1
          subst hx7
          refine wpOp_go rfl rfl (fun K hK => ?_)
          go_simp
          refine hK _ _ ?_
          exact ⟨_, _, _, rfl, HV.out.new (x := .int .i64 kn) rfl, hZ.keep, hM0.keep (by decide), hA9.keep, hB9.keep (j := 8) (by decide), hE.step (by simp [hp]), by simp [hz]⟩
        · skip
          have e8 : V 8 = .int .i64 kn := hv.get 8 (by decide) (by simp [hp])
          have HV := Lib.hid (hv.fixE e8 rfl)
          clear hv
          simp only [e8]
          refine wpOp_go rfl rfl (fun K hK => ?_)
          go_simp
          refine hK _ _ ?_
          exact ⟨_, _, _, rfl, HV.out.other (by decide), hZ.keep, hM0.keep (by decide), Off.done (by omega), On.new rfl, hE.step (by simp [hp]), by simp [hz]⟩
      · intro l a' W' hr hI
        obtain ⟨V, x7, x9, rfl, hv, hZ, hM0, hA9, hB9, hE, hz⟩ := hI
        have a0 := not_ready (i := 0) hr hz rfl (by simp [Region.binds])
        have a1 := not_ready (i := 1) hr hz rfl (by simp [Region.binds, a0])
        have a2 := not_ready (i := 2) hr hz rfl (by simp [Region.binds, a0, a1])
        have a3 := not_ready (i := 3) hr hz rfl (by simp [Region.binds, a0, a1, a2])
        have a4 := not_ready (i := 4) hr hz rfl (by simp [Region.binds, a0, a1, a2, a3])
        have a5 := not_ready (i := 5) hr hz rfl (by simp [Region.binds, a0, a1, a2, a3, a4])
        have a6 := not_ready (i := 6) hr hz rfl (by simp [Region.binds, a0, a1, a2, a3, a4, a5])
        have a7 := not_ready (i := 7) hr hz rfl (by simp [Region.binds, a0, a1, a2, a3, a4, a5, a6])
        have a8 := not_ready (i := 8) hr hz rfl (by simp [Region.binds, a0, a1, a2, a3, a4, a5, a6, a7])
        have a9 := not_ready (i := 9) hr hz rfl (by simp [Region.binds, a0, a1, a2, a3, a4, a5, a6, a7, a8])
        have hY := hM0.get a7
        have hX9 := hB9.get a9
        clear hr hz hv hZ a0 a1 a2 a3 a4 a5 a6 a7 a8 a9 hM0 hA9 hB9 hE
        subst hX9
        go_wp2_with fail
        go_roundw
        case rel => exact ⟨kn, by have := HKN.out; omega, by have := HKN.out; omega, rfl, hY.2.1, hY.2.2⟩
        case measure => simp [intOf]; have := HKN.out; omega
      · exact ⟨fun zz => List.getD [u38, u39, u40, u41, u42, u43, u44, u45, u46, Value.int IntKind.i64 ↑k] zz undef, _, _, rfl, OnFix.start, Off.new (((Below.refl _ _).drew)), fun h => absurd h (by decide), Off.new rfl, fun h => absurd h (by decide), Edg.start, by simp⟩
    · obtain rfl : k = c := by omega
      go_wp2_with fail
      go_ret
      obtain ⟨cur, hg1, hsz, hcur⟩ := hR
      have hcell : ∀ a j, a < k → j < 5 → wr.cell? ⟨g, a * 5 + j, none⟩ = vs[j]? := by
        intro a j ha hj
        rw [← hcur a j ha hj]
        simp [World.cell?, hg1]
      rw [HG.out] at hB
      refine ⟨g, rfl, by rw [HG.out]; exact Nat.le_refl _, ?_, fun a ha => ?_, hB⟩
      · refine ⟨⟨fun i => cur.getD i undef, cur, hg1, hsz, fun i hi => ?_⟩, sn (na q), ?_⟩
        · show cur[i]? = some (cur.getD i undef)
          rw [Array.getElem?_eq_getElem (by omega), Array.getD_eq_getD_getElem?, Array.getElem?_eq_getElem (by omega), Option.getD_some]
        · have := hcell 0 0 h0 (by omega)
          rw [HVS.out] at this
          simpa using this
      · have k0 := hcell a 0 ha (by omega); have k1 := hcell a 1 ha (by omega); have k2 := hcell a 2 ha (by omega); have k3 := hcell a 3 ha (by omega); have k4 := hcell a 4 ha (by omega)
        rw [HVS.out] at k0 k1 k2 k3 k4
        exact ⟨A1, A2, A3, ⟨by simpa using k0, by simpa using k1, by simpa using k2, by simpa using k3, by simpa using k4⟩, HN.out.to hB⟩
end Go.Proofs.Ytdpjknjlhchmcaa

namespace Go.Proofs.Ytdpjknjlhchmcaa
open Go.RowKit Pl
set_option linter.unusedVariables false
set_option linter.unusedSimpArgs false
/-- The first r rows are made; entry (i, k) is f i k where D says so. -/
def MkP (w0 : World) (gO n m r : Nat) (D : Nat → Nat → Prop) (f : Nat → Nat → Cx) (w : World) : Prop :=
  w0.heap.size ≤ gO ∧ gO < w.heap.size ∧ (∃ F, w.rowIs gO 42 n F) ∧
  (∃ G : Nat → Nat, (∀ i, i < n → i < r → w.cell? ⟨gO, i, none⟩ = some (.slice (some ⟨G i, 0, none⟩) m m) ∧ w0.heap.size ≤ G i ∧ G i ≠ gO ∧ G i < w.heap.size ∧ (0 < m → RowB w (G i) 34 (m * 5)) ∧ ∀ k, k < m → D i k → PE w (G i) (k * 5) (f i k)) ∧
    (∀ i, i < n → r ≤ i → w.cell? ⟨gO, i, none⟩ = some (.slice none 0 0)) ∧ (∀ i k, i < n → k < n → i < r → k < r → G i = G k → i = k)) ∧ Below w0.heap.size w0 w
theorem MkP.to {w0 w w' : World} {gO n m r : Nat} {D : Nat → Nat → Prop} {f : Nat → Nat → Cx} (h : MkP w0 gO n m r D f w) (hb : Below w.heap.size w w') : MkP w0 gO n m r D f w' := by
  obtain ⟨h1, h2, ⟨F, h3⟩, ⟨G, h4, h5, h6⟩, h7⟩ := h
  exact ⟨h1, Nat.lt_of_lt_of_le h2 hb.size, ⟨F, h3.of_block (hb.block gO h2)⟩, ⟨G, fun i hi hr => by
    obtain ⟨a1, a2, a3, a4, a5, a6⟩ := h4 i hi hr
    exact ⟨keepc hb a1 h2, a2, a3, Nat.lt_of_lt_of_le a4 hb.size, fun hm => (a5 hm).to hb, fun k hk hd => (a6 k hk hd).to hb⟩, fun i hi hr => keepc hb (h5 i hi hr) h2, h6⟩, h7.trans (hb.mono h7.size)⟩
theorem MkP.new {w : World} {n m : Nat} {D : Nat → Nat → Prop} {f : Nat → Nat → Cx} : MkP w w.heap.size n m 0 D f (mkS w n 42) := by
  have h := mkS_row w n 42
  exact ⟨Nat.le_refl _, by rw [mkS_size]; omega, ⟨_, h⟩, ⟨fun _ => 0, fun i _ hr => absurd hr (Nat.not_lt_zero _), fun i hi _ => h.cell hi, fun i k _ _ h => absurd h (Nat.not_lt_zero _)⟩, mkS_below _ _ _⟩
theorem MkP.at {w0 w : World} {gO n m r : Nat} {D : Nat → Nat → Prop} {f : Nat → Nat → Cx} (h : MkP w0 gO n m r D f w) {i : Nat} (hi : i < n) : ∃ v, w.cell? ⟨gO, i, none⟩ = some v ∧ w.frozen? ⟨gO, i, none⟩ = false := by
  obtain ⟨_, _, ⟨F, h3⟩, _⟩ := h
  exact ⟨_, h3.cell hi, h3.frozen i⟩
/-- An entry is stored. -/
theorem MkP.put {w0 W : World} {gO n m r i k : Nat} {D : Nat → Nat → Prop} {f : Nat → Nat → Cx} (h : MkP w0 gO n m r D f W) (hi : i < n) (hr : i < r) (hk : k < m) :
    ∃ g, W.cell? ⟨gO, i, none⟩ = some (.slice (some ⟨g, 0, none⟩) m m) ∧ gO < W.heap.size ∧ g < W.heap.size ∧ (D i k → PE W g (k * 5) (f i k)) ∧ ∀ w, Below W.heap.size W w →
      (∃ u0 u1 u2 u3 u4, w.cell? ⟨g, k * 5, none⟩ = some u0 ∧ w.cell? ⟨g, k * 5 + 1, none⟩ = some u1 ∧ w.cell? ⟨g, k * 5 + 2, none⟩ = some u2 ∧ w.cell? ⟨g, k * 5 + 3, none⟩ = some u3 ∧ w.cell? ⟨g, k * 5 + 4, none⟩ = some u4) ∧
      (w.frozen? ⟨g, k * 5, none⟩ = false ∧ w.frozen? ⟨g, k * 5 + 1, none⟩ = false ∧ w.frozen? ⟨g, k * 5 + 2, none⟩ = false ∧ w.frozen? ⟨g, k * 5 + 3, none⟩ = false ∧ w.frozen? ⟨g, k * 5 + 4, none⟩ = false) ∧
      ∀ (D' : Nat → Nat → Prop) (f' : Nat → Nat → Cx) (q : Cx) (A1 A2 A3 : Option Addr), Num3 w A1 A2 A3 q → f' i k = q → (∀ a b, ¬ (a = i ∧ b = k) → D' a b → D a b ∧ f' a b = f a b) → MkP w0 gO n m r D' f' (set5o w g (k * 5) q A1 A2 A3) := by
  have hW := h
  obtain ⟨h1, h2, _, ⟨G, h4, h5, h6⟩, _⟩ := hW
  obtain ⟨a1, a2, a3, a4, a5, a6⟩ := h4 i hi hr
  refine ⟨G i, a1, h2, a4, a6 k hk, fun w hb => ?_⟩
  obtain ⟨k1, k2, ⟨F, k3⟩, _, k7⟩ := h.to hb
  have hrow := (a5 (by omega)).to hb
  obtain ⟨⟨F2, q1⟩, c, q2⟩ := hrow
  have e5 : k * 5 + 5 ≤ m * 5 := by omega
  refine ⟨⟨_, _, _, _, _, q1.cell (by omega), q1.cell (by omega), q1.cell (by omega), q1.cell (by omega), q1.cell (by omega)⟩, ⟨q1.frozen _, q1.frozen _, q1.frozen _, q1.frozen _, q1.frozen _⟩, fun D' f' q A1 A2 A3 hq hf hD => ?_⟩
  have g4 : ∀ j, j < n → j < r → w.cell? ⟨gO, j, none⟩ = some (.slice (some ⟨G j, 0, none⟩) m m) ∧ w0.heap.size ≤ G j ∧ G j ≠ gO ∧ G j < w.heap.size ∧ (0 < m → RowB w (G j) 34 (m * 5)) ∧ ∀ k, k < m → D j k → PE w (G j) (k * 5) (f j k) := fun j hj hjr => by
    obtain ⟨b1, b2, b3, b4, b5, b6⟩ := h4 j hj hjr
    exact ⟨keepc hb b1 h2, b2, b3, Nat.lt_of_lt_of_le b4 hb.size, fun hm => (b5 hm).to hb, fun k hk hd => (b6 k hk hd).to hb⟩
  refine ⟨k1, by rw [set5o_size]; exact k2, ?_, ⟨G, fun j hj hjr => ?_, fun j hj hjr => set5o_cell (keepc hb (h5 j hj hjr) h2) (.inl (Ne.symm a3)), h6⟩, set5o_below k7 a2⟩
  · exact ⟨F, ((((k3.setOther (a := ⟨G i, k * 5, none⟩) (Ne.symm a3) _).setOther (a := ⟨G i, k * 5 + 1, none⟩) (Ne.symm a3) _).setOther (a := ⟨G i, k * 5 + 2, none⟩) (Ne.symm a3) _).setOther (a := ⟨G i, k * 5 + 3, none⟩) (Ne.symm a3) _).setOther (a := ⟨G i, k * 5 + 4, none⟩) (Ne.symm a3) _⟩
  · obtain ⟨b1, b2, b3, b4, b5, b6⟩ := g4 j hj hjr
    refine ⟨set5o_cell b1 (.inl (Ne.symm a3)), b2, b3, by rw [set5o_size]; exact b4, fun hm => (b5 hm).set5o, fun l hl hd => ?_⟩
    by_cases e : j = i ∧ l = k
    · obtain ⟨rfl, rfl⟩ := e
      rw [hf]
      exact pe_set q1 e5 q2 hq
    · obtain ⟨d1, d2⟩ := hD j l e hd
      rw [d2]
      refine (b6 l hl d1).set5o ?_ q2
      by_cases ej : j = i
      · subst ej
        right
        have : l ≠ k := fun e2 => e ⟨rfl, e2⟩
        omega
      · left
        intro e2
        exact ej (h6 j i hj hi hjr hr e2)
theorem MkP.fin {w0 w : World} {gO n m : Nat} {D : Nat → Nat → Prop} {f : Nat → Nat → Cx} (h : MkP w0 gO n m n D f w) (hD : ∀ i k, D i k) : MatP w (some ⟨gO, 0, none⟩) n (fun _ => m) f ∧ Below w0.heap.size w0 w := by
  obtain ⟨h1, h2, _, ⟨G, h4, _, _⟩, h7⟩ := h
  exact ⟨⟨fun i => some ⟨G i, 0, none⟩, fun _ => m, fun i hi => ⟨gO, 0, rfl, h2, by rw [Nat.zero_add]; exact (h4 i hi hi).1⟩, fun i hi j hj => ⟨_, rfl, (h4 i hi hi).2.2.2.2.2 j hj (hD i j)⟩⟩, h7⟩
theorem MkP.cong {w0 w : World} {gO n m r : Nat} {D D' : Nat → Nat → Prop} {f f' : Nat → Nat → Cx} (h : MkP w0 gO n m r D f w) (hd : ∀ i k, i < r → k < m → D' i k → D i k ∧ f' i k = f i k) : MkP w0 gO n m r D' f' w := by
  obtain ⟨h1, h2, h3, ⟨G, h4, h5, h6⟩, h7⟩ := h
  exact ⟨h1, h2, h3, ⟨G, fun i hi hr => by
    obtain ⟨a1, a2, a3, a4, a5, a6⟩ := h4 i hi hr
    exact ⟨a1, a2, a3, a4, a5, fun k hk hk2 => by rw [(hd i k hr hk hk2).2]; exact a6 k hk (hd i k hr hk hk2).1⟩, h5, h6⟩, h7⟩
theorem MkP.below {w0 w : World} {gO n m r : Nat} {D : Nat → Nat → Prop} {f : Nat → Nat → Cx} (h : MkP w0 gO n m r D f w) : Below w0.heap.size w0 w := h.2.2.2.2
/-- A row that was made elsewhere is put in. -/
theorem MkP.rowR {w0 We w : World} {gO n m r g : Nat} {D : Nat → Nat → Prop} {f : Nat → Nat → Cx} (h : MkP w0 gO n m r D f We) (hr : r < n) (hb : Below We.heap.size We w) (hg : We.heap.size ≤ g) (hgl : g < w.heap.size) (hrow : 0 < m → RowB w g 34 (m * 5)) (hpe : ∀ k, k < m → D r k → PE w g (k * 5) (f r k)) :
    MkP w0 gO n m (r + 1) D f (w.setCell ⟨gO, r, none⟩ (.slice (some ⟨g, 0, none⟩) m m)) := by
  have h2 := h.to hb
  obtain ⟨_, a2, _, ⟨G0, a4, n5, a6⟩, _⟩ := h
  obtain ⟨h1, h3, ⟨F, h4⟩, _, h8⟩ := h2
  have hold : ∀ i, i < n → i < r → w.cell? ⟨gO, i, none⟩ = some (.slice (some ⟨G0 i, 0, none⟩) m m) ∧ w0.heap.size ≤ G0 i ∧ G0 i ≠ gO ∧ G0 i < We.heap.size ∧ (0 < m → RowB w (G0 i) 34 (m * 5)) ∧ ∀ k, k < m → D i k → PE w (G0 i) (k * 5) (f i k) := fun i hi hi2 => by
    obtain ⟨b1, b2, b3, b4, b5, b6⟩ := a4 i hi hi2
    exact ⟨keepc hb b1 a2, b2, b3, b4, fun hm => (b5 hm).to hb, fun k hk hd => (b6 k hk hd).to hb⟩
  have hnil : ∀ i, i < n → r ≤ i → w.cell? ⟨gO, i, none⟩ = some (.slice none 0 0) := fun i hi hi2 => keepc hb (n5 i hi hi2) a2
  have hS : ∃ (S : Option Addr) (a b : Nat), w.cell? ⟨gO, 0, none⟩ = some (.slice S a b) := by
    by_cases h0 : 0 < r
    · exact ⟨_, _, _, (hold 0 (by omega) h0).1⟩
    · exact ⟨_, _, _, hnil 0 (by omega) (by omega)⟩
  obtain ⟨S, sa, sb, hS⟩ := hS
  have u := hnil r hr (Nat.le_refl _)
  have hsz := hb.size
  refine ⟨h1, by simpa [World.setCell] using h3, ⟨_, h4.set _ _⟩, ⟨fun i => if i = r then g else G0 i, fun i hi hi2 => ?_, fun i hi hi2 => keepo (hnil i hi (by omega)) (.inr (by omega)), fun i k hi hk hi2 hk2 he => ?_⟩, h8.setCell h1 _⟩
  · by_cases e : i = r
    · subst e
      simp only [if_pos]
      refine ⟨cell_self u, Nat.le_trans h1 (by omega), by omega, by simpa [World.setCell] using hgl, fun hm => ?_, fun k hk hd => (hpe k hk hd).setS (by omega) hS⟩
      obtain ⟨⟨F2, q1⟩, c, q2⟩ := hrow hm
      exact ⟨⟨F2, q1.setOther (a := ⟨gO, i, none⟩) (by show g ≠ gO; omega) _⟩, c, keepo q2 (.inl (by omega))⟩
    · simp only [if_neg e]
      obtain ⟨b1, b2, b3, b4, b5, b6⟩ := hold i hi (by omega)
      refine ⟨keepo b1 (.inr (by omega)), b2, b3, by simp [World.setCell]; omega, fun hm => ?_, fun k hk hd => (b6 k hk hd).setS b3 hS⟩
      obtain ⟨⟨F2, q1⟩, c, q2⟩ := b5 hm
      exact ⟨⟨F2, q1.setOther (a := ⟨gO, r, none⟩) b3 _⟩, c, keepo q2 (.inl b3)⟩
  · by_cases ei : i = r <;> by_cases ek : k = r
    · omega
    · simp only [if_pos ei, if_neg ek] at he
      have := (hold k hk (by omega)).2.2.2.1
      omega
    · simp only [if_pos ek, if_neg ei] at he
      have := (hold i hi (by omega)).2.2.2.1
      omega
    · simp only [if_neg ei, if_neg ek] at he
      exact a6 i k hi hk (by omega) (by omega) he
end Go.Proofs.Ytdpjknjlhchmcaa

namespace Go.Proofs.Ytdpjknjlhchmcaa
open Go.RowKit Pl
set_option linter.unusedVariables false
set_option linter.unusedSimpArgs false
/-- The matrix of n rows whose elements are taken from a list of k, again and again. -/
def sqm (k n : Nat) (X Y Z : Nat → Int) : Nat → Nat → Cx := fun i j => if k = 0 then Cx.zero else ofv (X ((i * n + j) % k)) (Y ((i * n + j) % k)) (Z ((i * n + j) % k))
/-- Row i up to column j; 0 behind it. -/
def fillTo (F : Nat → Nat → Cx) (i j : Nat) : Nat → Nat → Cx := fun a b => if a < i ∨ (a = i ∧ b < j) then F a b else Cx.zero
theorem WkP.ofMk {w0 w : World} {gO n m : Nat} {D : Nat → Nat → Prop} {f : Nat → Nat → Cx} (h : MkP w0 gO n m n D f w) (hD : ∀ i k, D i k) (hm : 0 < n → 0 < m) : WkP w0 w.heap.size gO n m f w := by
  obtain ⟨h1, h2, h3, ⟨G, h4, _, h6⟩, h7⟩ := h
  exact ⟨h1, ⟨h2, Nat.le_refl _⟩, h3, ⟨G, fun _ => m, fun i hi => by
    obtain ⟨a1, a2, a3, a4, a5, a6⟩ := h4 i hi hi
    exact ⟨a1, a2, a3, a4, Nat.le_refl _, a5 (hm (by omega)), fun k hk => a6 k hk (hD i k)⟩, fun i k hi hk he => h6 i k hi hk hi hk he⟩, h7⟩
theorem zero_num3 (w : World) : Num3 w none none none Cx.zero := by
  obtain ⟨z1, z2, z3⟩ := zero_form
  exact ⟨fun h => absurd h (by rw [z1]; decide), fun h => absurd h (by rw [z2]; decide), fun h => absurd h (by rw [z3]; decide)⟩
theorem mkN_zero (w : World) (n : Nat) (T : TypeId) : ∀ k, k < n → PE (mkN w n T) w.heap.size (k * 5) Cx.zero := by
  intro k hk
  have h := World.rowIs_alloc w (madeCells Z5 (n * 5)) T (fun j => Z5[j % 5]!) (fun i hi => by rw [size_madeCells] at hi; simp [madeCells, hi]; rfl)
  rw [size_madeCells] at h
  obtain ⟨z1, z2, z3⟩ := zero_form
  have e0 : ln (ab (0 : Int)) = 0 := ln_zero
  have c0 := h.cell (i := k * 5) (by omega)
  have c1 := h.cell (i := k * 5 + 1) (by omega)
  have c2 := h.cell (i := k * 5 + 2) (by omega)
  have c3 := h.cell (i := k * 5 + 3) (by omega)
  have c4 := h.cell (i := k * 5 + 4) (by omega)
  rw [show k * 5 % 5 = 0 by omega] at c0
  rw [show (k * 5 + 1) % 5 = 1 by omega] at c1
  rw [show (k * 5 + 2) % 5 = 2 by omega] at c2
  rw [show (k * 5 + 3) % 5 = 3 by omega] at c3
  rw [show (k * 5 + 4) % 5 = 4 by omega] at c4
  exact ⟨none, none, none, ⟨by rw [z1]; exact c0, by rw [z1, e0]; exact c1, by rw [z2]; exact c2, by rw [z2, e0]; exact c3, by rw [z3, ln_zero]; exact c4⟩, zero_num3 _⟩
theorem wrapi_nat {a : Nat} (h : a ≤ 4000000) : IntKind.i64.wrap (a : Int) = (a : Int) := by simp [IntKind.wrap, IntKind.bits, IntKind.signed]; omega
def RetSq (w : World) (n : Nat) (f : Nat → Nat → Cx) (e : Ending) (w' : World) : Prop := ∃ gO, e = .returned (.slice (some ⟨gO, 0, none⟩) n n) ∧ WkP w w'.heap.size gO n n f w'
set_option maxRecDepth 100000 in
set_option maxHeartbeats 40000000 in
theorem sq_law (w : World) (A : Option Addr) (k c n : Nat) (X Y Z : Nat → Int) (hT : Triples w A k X Y Z) (hn : n ≤ 10) (hk : k ≤ maxLen) :
    Calls Try.prog 6 #[.slice A k c, .int .i64 n] w (RetSq w n (sqm k n X Y Z)) := by
  obtain ⟨F, hF⟩ : ∃ F, F = sqm k n X Y Z := ⟨_, rfl⟩
  rw [← hF]
  have HF := Lib.hid hF
  have HT := Lib.hid hT
  clear hF hT
  have hmk := mk_nums2 n (by omega)
  have hmk1 := mk_nums n (by omega)
  go_enter Try.func6, Try.ntmps6
  go_wp2_with fail
  clear hmk
  have hB0 : MkP w w.heap.size n n 0 (fun _ _ => True) F (mkS w n 42) := MkP.new
  generalize mkS w n 42 = W0 at *
  obtain ⟨gO, hgO⟩ : ∃ g, g = w.heap.size := ⟨_, rfl⟩
  rw [← hgO] at hB0 ⊢
  clear hgO
  go_loopw [12] (fun i (wr : World) => ∃ i' : Nat, i' ≤ n ∧ i = .int .i64 i' ∧ MkP w gO n n i' (fun _ _ => True) F wr) (fun i _ => n - (intOf i).toNat)
  case atStart => exact ⟨0, Nat.zero_le _, rfl, hB0⟩
  case round =>
    obtain ⟨i, hi, rfl, hB⟩ := hrel
    clear hB0
    by_cases hlt : i < n
    · have hbm := mkN_below wr n 34
      have hB1 := (hB.cong (D' := fun _ _ => True) (f' := fillTo F i 0) (fun a b ha _ _ => ⟨trivial, if_pos (.inl ha)⟩)).rowR hlt hbm (Nat.le_refl _) (by rw [mkN_size]; omega) (fun h => mkN_row wr n _ h) (fun b hb _ => by
        rw [show fillTo F i 0 i b = Cx.zero from if_neg (by omega)]; exact mkN_zero wr n _ b hb)
      obtain ⟨v0, b1, b2⟩ := (hB.to hbm).at hlt
      have i1 : (0 : Int) ≤ (i : Int) := by omega
      have i2 : (i : Int) < (n : Int) := by omega
      have HB1 := Lib.hid hB1
      clear hB1 hB hbm
      go_upto_region 7 with fail
      obtain ⟨gr, hgr⟩ : ∃ g, g = wr.heap.size := ⟨_, rfl⟩
      rw [← hgr] at HB1 ⊢
      clear hgr
      obtain ⟨W1, hW1⟩ : ∃ X : World, X = (mkN wr n 34).setCell ⟨gO, i, none⟩ (.slice (some ⟨gr, 0, none⟩) n n) := ⟨_, rfl⟩
      rw [← hW1]
      have hB2 : MkP w gO n n (i + 1) (fun _ _ => True) (fillTo F i 0) W1 := by rw [hW1]; exact HB1.out
      clear HB1 b1 b2 hW1
      go_loopw [25] (fun q (wr : World) => ∃ j : Nat, j ≤ n ∧ q = .int .i64 j ∧ MkP w gO n n (i + 1) (fun _ _ => True) (fillTo F i j) wr) (fun q _ => n - (intOf q).toNat)
      case atStart => exact ⟨0, Nat.zero_le _, rfl, hB2⟩
      case round =>
        obtain ⟨j, hj, rfl, hB⟩ := hrel
        clear hB2
        by_cases hjn : j < n
        · by_cases hk0 : k = 0
          · have t0 : decide (0 < k) = false := by rw [decide_eq_false_iff_not]; omega
            have hst := hB.cong (D' := fun _ _ => True) (f' := fillTo F i (j + 1)) (fun a b ha _ _ => ⟨trivial, by
              unfold fillTo
              have e : ∀ a b, F a b = Cx.zero := fun a b => by rw [HF.out]; exact if_pos hk0
              simp only [e]
              split <;> split <;> rfl⟩)
            have HST := Lib.hid hst
            clear hst hB hk0
            go_wp2_with fail
            go_roundw
            case rel => exact ⟨j + 1, by omega, by go_num, HST.out⟩
            case measure => simp [intOf]; omega
          · have t0 : decide (0 < k) = true := by rw [decide_eq_true_eq]; omega
            obtain ⟨g, r1, r2, r3, _, hput⟩ := hB.put hlt (Nat.lt_succ_self i) hjn
            obtain ⟨p1, hp1⟩ : ∃ p, p = i * n := ⟨_, rfl⟩
            obtain ⟨p2, hp2⟩ : ∃ p, p = p1 + j := ⟨_, rfl⟩
            obtain ⟨p3, hp3⟩ : ∃ p, p = p2 % k := ⟨_, rfl⟩
            have hp1b : p1 ≤ 100 := by rw [hp1]; exact Nat.mul_le_mul (show i ≤ 10 by omega) hn
            have q1 : (i : Int) * (n : Int) = (p1 : Int) := by rw [hp1]; simp
            have q2 : (p1 : Int) + (j : Int) = (p2 : Int) := by omega
            have q4 := wrapi_nat (a := p1) (by omega)
            have q5 := wrapi_nat (a := p2) (by omega)
            have q3 : (p2 : Int).tmod (k : Int) = (p3 : Int) := by rw [hp3]; rfl
            have hp3b : p3 < k := by rw [hp3]; exact Nat.mod_lt _ (by omega)
            obtain ⟨bA, fo, rfl, hlA, c0, c1, c2, rx, ry, rz⟩ := (HT.out.to hB.below) p3 hp3b
            obtain ⟨q, hq⟩ : ∃ q, q = ofv (X p3) (Y p3) (Z p3) := ⟨_, rfl⟩
            have HOF := Lib.hid (fun W => of_any (X p3) (Y p3) (Z p3) W rx ry rz)
            rw [← hq] at HOF
            have hnew : fillTo F i (j + 1) i j = q := by
              rw [show fillTo F i (j + 1) i j = F i j from if_pos (.inr ⟨rfl, Nat.lt_succ_self j⟩), HF.out]
              unfold sqm
              rw [if_neg hk0, ← hp1, ← hp2, ← hp3, hq]
            have HNEW := Lib.hid hnew
            generalize X p3 = x at *
            generalize Y p3 = y at *
            generalize Z p3 = z at *
            have i3 : (0 : Int) ≤ (j : Int) := by omega
            have i4 : (j : Int) < (n : Int) := by omega
            have i5 : (0 : Int) ≤ (p3 : Int) := by omega
            have i6 : (p3 : Int) < (k : Int) := by omega
            have i7 : (0 : Int) < (k : Int) := by omega
            have hlw := hB.below
            clear hB hp1 hp2 hp3 hq hnew rx ry rz
            go_upto_region 10 with fail
            refine wp_region_any (by kernel_rfl) ?_
            refine wpAny_inv (fun l a' w' => ∃ V : Nat → Value, ∃ x16 : Value, a' = ⟨#[.slice (some ⟨bA, fo, none⟩) k c, .int .i64 ↑n, undef, undef, .slice none 0 0, .slice (some ⟨gO, 0, none⟩) n n, .int .i64 ↑i, .int .i64 ↑j, .int .i64 ↑n, .slice (some ⟨gO, 0, none⟩) n n, .slice (some ⟨gO, 0, none⟩) n n, .int .i64 ↑n, .int .i64 ↑i, .bool true, .int .i64 ↑i, .slice (some ⟨gO, 0, none⟩) n n, .int .i64 ↑i, .int .i64 ↑n, .slice (some ⟨gr, 0, none⟩) n n, .pointer (some ⟨gO, i, none⟩), .slice (some ⟨gO, 0, none⟩) n n, .int .i64 ↑i, .pointer (some ⟨gO, i, none⟩), .slice (some ⟨gr, 0, none⟩) n n, .int .i64 ↑n, .int .i64 ↑j, .bool true, .int .i64 ↑j, .slice (some ⟨bA, fo, none⟩) k c, .int .i64 ↑k, .bool true, V 0, V 1, V 2, V 3, V 4, V 5, V 6, V 7, V 8, V 9, V 10, V 11, V 12, V 13, V 14, V 15, x16, V 17, u49, u50, undef], []⟩ ∧ OnFix l V (fun zz => List.getD [.slice (some ⟨gO, 0, none⟩) n n, .int .i64 i, .pointer (some ⟨gO, i, none⟩), .slice (some ⟨g, 0, none⟩) n n, .int .i64 j, .slice (some ⟨bA, fo, none⟩) k c, .int .i64 i, .int .i64 n, .int .i64 p1, .int .i64 j, .int .i64 p2, .slice (some ⟨bA, fo, none⟩) k c, .int .i64 k, .int .i64 p3, .pointer (some ⟨bA, fo + p3 * 3, none⟩), .agg #[.int .i64 x, .int .i64 y, .int .i64 z], undef, .pointer (some ⟨g, j * 5, none⟩), undef] zz undef) [0, 1, 2, 3, 4, 5, 6, 7, 8, 9, 10, 11, 12, 13, 14, 15, 17] ∧ Off l 18 (Below wr.heap.size wr w' ∧ On l 16 (SlotNum w' x16 q)) ∧ On l 18 (MkP w gO n n (i + 1) (fun _ _ => True) (fillTo F i (j + 1)) w') ∧ Edg l [(18, 17), (17, 3), (18, 16), (16, 15)] ∧ l.size = 19) ?_ ?_ _ _ _ _ (by decide) ?_
            · intro l a' W' i hi hI
              obtain ⟨V, x16, rfl, hv, hZ, hM0, hE, hz⟩ := hI
              obtain ⟨hlt, hoff, hpre⟩ := ready_pre hi
              have hc : i ∈ [0, 1, 2, 3, 4, 5, 6, 7, 8, 9, 10, 11, 12, 13, 14, 15, 16, 17, 18] := (by decide : ∀ i, i < 19 → i ∈ [0, 1, 2, 3, 4, 5, 6, 7, 8, 9, 10, 11, 12, 13, 14, 15, 16, 17, 18]) i hlt
              simp only [List.mem_cons, List.not_mem_nil, or_false] at hc
              clear hi hlt
              rcases hc with rfl | rfl | rfl | rfl | rfl | rfl | rfl | rfl | rfl | rfl | rfl | rfl | rfl | rfl | rfl | rfl | rfl | rfl | rfl <;> (have hp := hpre _ rfl; simp [Region.binds] at hp; clear hpre)
              · skip
                have HV := Lib.hid hv
                clear hv
                refine wpOp_go rfl rfl (fun K hK => ?_)
                go_simp
                refine hK _ _ ?_
                exact ⟨_, _, rfl, HV.out.new (x := .slice (some ⟨gO, 0, none⟩) n n) rfl, hZ.keep.map (fun ⟨hb0, y16⟩ => ⟨hb0, y16.keep (by decide)⟩), hM0.keep (by decide), hE.mono (by decide), by simp [hz]⟩
              · skip
                have HV := Lib.hid hv
                clear hv
                refine wpOp_go rfl rfl (fun K hK => ?_)
                go_simp
                refine hK _ _ ?_
                exact ⟨_, _, rfl, HV.out.new (x := .int .i64 i) rfl, hZ.keep.map (fun ⟨hb0, y16⟩ => ⟨hb0, y16.keep (by decide)⟩), hM0.keep (by decide), hE.mono (by decide), by simp [hz]⟩
              · skip
                have e0 : V 0 = .slice (some ⟨gO, 0, none⟩) n n := hv.get 0 (by decide) (by simp [hp])
                have e1 : V 1 = .int .i64 i := hv.get 1 (by decide) (by simp [hp])
                have HV := Lib.hid ((hv.fixE e0 rfl).fixE e1 rfl)
                clear hv
                simp only [e0, e1]
                refine wpOp_go rfl rfl (fun K hK => ?_)
                go_simp
                refine hK _ _ ?_
                exact ⟨_, _, rfl, HV.out.new (x := .pointer (some ⟨gO, i, none⟩)) rfl, hZ.keep.map (fun ⟨hb0, y16⟩ => ⟨hb0, y16.keep (by decide)⟩), hM0.keep (by decide), hE.mono (by decide), by simp [hz]⟩
              · skip
                have e2 : V 2 = .pointer (some ⟨gO, i, none⟩) := hv.get 2 (by decide) (by simp [hp])
                have HV := Lib.hid (hv.fixE e2 rfl)
                clear hv
                simp only [e2]
                have hY := hZ.get (fun h => off hoff (hE.get 17 3 (by decide) (hE.get 18 17 (by decide) h)))
                have z := keepc hY.1 r1 r2
                refine wpOp_go rfl rfl (fun K hK => ?_)
                go_simp
                refine hK _ _ ?_
                exact ⟨_, _, rfl, HV.out.new (x := .slice (some ⟨g, 0, none⟩) n n) rfl, hZ.keep.map (fun ⟨hb0, y16⟩ => ⟨hb0, y16.keep (by decide)⟩), hM0.keep (by decide), hE.mono (by decide), by simp [hz]⟩
              · skip
                have HV := Lib.hid hv
                clear hv
                refine wpOp_go rfl rfl (fun K hK => ?_)
                go_simp
                refine hK _ _ ?_
                exact ⟨_, _, rfl, HV.out.new (x := .int .i64 j) rfl, hZ.keep.map (fun ⟨hb0, y16⟩ => ⟨hb0, y16.keep (by decide)⟩), hM0.keep (by decide), hE.mono (by decide), by simp [hz]⟩
              · skip
                have HV := Lib.hid hv
                clear hv
                refine wpOp_go rfl rfl (fun K hK => ?_)
                go_simp
                refine hK _ _ ?_
                exact ⟨_, _, rfl, HV.out.new (x := .slice (some ⟨bA, fo, none⟩) k c) rfl, hZ.keep.map (fun ⟨hb0, y16⟩ => ⟨hb0, y16.keep (by decide)⟩), hM0.keep (by decide), hE.mono (by decide), by simp [hz]⟩
              · skip
                have HV := Lib.hid hv
                clear hv
                refine wpOp_go rfl rfl (fun K hK => ?_)
                go_simp
                refine hK _ _ ?_
                exact ⟨_, _, rfl, HV.out.new (x := .int .i64 i) rfl, hZ.keep.map (fun ⟨hb0, y16⟩ => ⟨hb0, y16.keep (by decide)⟩), hM0.keep (by decide), hE.mono (by decide), by simp [hz]⟩
              · skip
                have HV := Lib.hid hv
                clear hv
                refine wpOp_go rfl rfl (fun K hK => ?_)
                go_simp
                refine hK _ _ ?_
                exact ⟨_, _, rfl, HV.out.new (x := .int .i64 n) rfl, hZ.keep.map (fun ⟨hb0, y16⟩ => ⟨hb0, y16.keep (by decide)⟩), hM0.keep (by decide), hE.mono (by decide), by simp [hz]⟩
              · skip
                have e6 : V 6 = .int .i64 i := hv.get 6 (by decide) (by simp [hp])
                have e7 : V 7 = .int .i64 n := hv.get 7 (by decide) (by simp [hp])
                have HV := Lib.hid ((hv.fixE e6 rfl).fixE e7 rfl)
                clear hv
                simp only [e6, e7]
                refine wpOp_go rfl rfl (fun K hK => ?_)
                go_simp
                refine hK _ _ ?_
                exact ⟨_, _, rfl, HV.out.new (x := .int .i64 p1) rfl, hZ.keep.map (fun ⟨hb0, y16⟩ => ⟨hb0, y16.keep (by decide)⟩), hM0.keep (by decide), hE.mono (by decide), by simp [hz]⟩
              · skip
                have HV := Lib.hid hv
                clear hv
                refine wpOp_go rfl rfl (fun K hK => ?_)
                go_simp
                refine hK _ _ ?_
                exact ⟨_, _, rfl, HV.out.new (x := .int .i64 j) rfl, hZ.keep.map (fun ⟨hb0, y16⟩ => ⟨hb0, y16.keep (by decide)⟩), hM0.keep (by decide), hE.mono (by decide), by simp [hz]⟩
              · skip
                have e8 : V 8 = .int .i64 p1 := hv.get 8 (by decide) (by simp [hp])
                have e9 : V 9 = .int .i64 j := hv.get 9 (by decide) (by simp [hp])
                have HV := Lib.hid ((hv.fixE e8 rfl).fixE e9 rfl)
                clear hv
                simp only [e8, e9]
                refine wpOp_go rfl rfl (fun K hK => ?_)
                go_simp
                refine hK _ _ ?_
                exact ⟨_, _, rfl, HV.out.new (x := .int .i64 p2) rfl, hZ.keep.map (fun ⟨hb0, y16⟩ => ⟨hb0, y16.keep (by decide)⟩), hM0.keep (by decide), hE.mono (by decide), by simp [hz]⟩
              · skip
                have HV := Lib.hid hv
                clear hv
                refine wpOp_go rfl rfl (fun K hK => ?_)
                go_simp
                refine hK _ _ ?_
                exact ⟨_, _, rfl, HV.out.new (x := .slice (some ⟨bA, fo, none⟩) k c) rfl, hZ.keep.map (fun ⟨hb0, y16⟩ => ⟨hb0, y16.keep (by decide)⟩), hM0.keep (by decide), hE.mono (by decide), by simp [hz]⟩
              · skip
                have e11 : V 11 = .slice (some ⟨bA, fo, none⟩) k c := hv.get 11 (by decide) (by simp [hp])
                have HV := Lib.hid (hv.fixE e11 rfl)
                clear hv
                simp only [e11]
                refine wpOp_go rfl rfl (fun K hK => ?_)
                go_simp
                refine hK _ _ ?_
                exact ⟨_, _, rfl, HV.out.new (x := .int .i64 k) rfl, hZ.keep.map (fun ⟨hb0, y16⟩ => ⟨hb0, y16.keep (by decide)⟩), hM0.keep (by decide), hE.mono (by decide), by simp [hz]⟩
              · skip
                have e10 : V 10 = .int .i64 p2 := hv.get 10 (by decide) (by simp [hp])
                have e12 : V 12 = .int .i64 k := hv.get 12 (by decide) (by simp [hp])
                have HV := Lib.hid ((hv.fixE e10 rfl).fixE e12 rfl)
                clear hv
                simp only [e10, e12]
                refine wpOp_go rfl rfl (fun K hK => ?_)
                go_simp
                refine hK _ _ ?_
                exact ⟨_, _, rfl, HV.out.new (x := .int .i64 p3) rfl, hZ.keep.map (fun ⟨hb0, y16⟩ => ⟨hb0, y16.keep (by decide)⟩), hM0.keep (by decide), hE.mono (by decide), by simp [hz]⟩
              · skip
                have e5 : V 5 = .slice (some ⟨bA, fo, none⟩) k c := hv.get 5 (by decide) (by simp [hp])
                have e13 : V 13 = .int .i64 p3 := hv.get 13 (by decide) (by simp [hp])
                have HV := Lib.hid ((hv.fixE e5 rfl).fixE e13 rfl)
                clear hv
                simp only [e5, e13]
                refine wpOp_go rfl rfl (fun K hK => ?_)
                go_simp
                refine hK _ _ ?_
                exact ⟨_, _, rfl, HV.out.new (x := .pointer (some ⟨bA, fo + p3 * 3, none⟩)) rfl, hZ.keep.map (fun ⟨hb0, y16⟩ => ⟨hb0, y16.keep (by decide)⟩), hM0.keep (by decide), hE.mono (by decide), by simp [hz]⟩
              · skip
                have e14 : V 14 = .pointer (some ⟨bA, fo + p3 * 3, none⟩) := hv.get 14 (by decide) (by simp [hp])
                have HV := Lib.hid (hv.fixE e14 rfl)
                clear hv
                simp only [e14]
                have hY := hZ.get (fun h => off hoff (hE.get 16 15 (by decide) (hE.get 18 16 (by decide) h)))
                have z0 := keepc hY.1 c0 hlA; have z1 := keepc hY.1 c1 hlA; have z2 := keepc hY.1 c2 hlA
                refine wpOp_go rfl rfl (fun K hK => ?_)
                go_simp
                refine hK _ _ ?_
                exact ⟨_, _, rfl, HV.out.new (x := .agg #[.int .i64 x, .int .i64 y, .int .i64 z]) rfl, hZ.keep.map (fun ⟨hb0, y16⟩ => ⟨hb0, y16.keep (by decide)⟩), hM0.keep (by decide), hE.mono (by decide), by simp [hz]⟩
              · skip
                have e15 : V 15 = .agg #[.int .i64 x, .int .i64 y, .int .i64 z] := hv.get 15 (by decide) (by simp [hp])
                have HV := Lib.hid (hv.fixE e15 rfl)
                clear hv
                simp only [e15]
                have hY := hZ.get (fun h => off hoff (hE.get 18 16 (by decide) h))
                refine wpOp_go rfl rfl (fun K hK => ?_)
                go_wp2_with (first | (go_at_call 24; refine (HOF.out _).mono ?_; rintro e w3 ⟨E1, E2, E3, rfl, hNN, hb⟩))
                try refine hK _ _ ?_
                exact ⟨_, _, rfl, HV.out.other (by decide), Off.new ⟨hY.1.trans (hb.mono hY.1.size), On.new (⟨E1, E2, E3, rfl, hNN⟩)⟩, fun h => absurd (hE.get 18 16 (by decide) (on_ne h (by decide))) (off hoff), hE.step (by simp [hp]), by simp [hz]⟩
              · skip
                have e3 : V 3 = .slice (some ⟨g, 0, none⟩) n n := hv.get 3 (by decide) (by simp [hp])
                have e4 : V 4 = .int .i64 j := hv.get 4 (by decide) (by simp [hp])
                have HV := Lib.hid ((hv.fixE e3 rfl).fixE e4 rfl)
                clear hv
                simp only [e3, e4]
                refine wpOp_go rfl rfl (fun K hK => ?_)
                go_simp
                refine hK _ _ ?_
                exact ⟨_, _, rfl, HV.out.new (x := .pointer (some ⟨g, j * 5, none⟩)) rfl, hZ.keep.map (fun ⟨hb0, y16⟩ => ⟨hb0, y16.keep (by decide)⟩), hM0.keep (by decide), hE.step (by simp [hp]), by simp [hz]⟩
              · skip
                have e17 : V 17 = .pointer (some ⟨g, j * 5, none⟩) := hv.get 17 (by decide) (by simp [hp])
                have HV := Lib.hid (hv.fixE e17 rfl)
                clear hv
                simp only [e17]
                have hY := hZ.get (off hoff)
                obtain ⟨E1, E2, E3, e1, hNN⟩ := hY.2.get (by simp [hp])
                subst e1
                obtain ⟨⟨u0, u1, u2, u3, u4, d0, d1, d2, d3, d4⟩, ⟨f0, f1, f2, f3, f4⟩, hfin⟩ := hput W' hY.1
                refine wpOp_go rfl rfl (fun K hK => ?_)
                go_simp
                refine hK _ _ ?_
                obtain ⟨XX, hX⟩ : ∃ XX : World, XX = set5o W' g (j * 5) q E1 E2 E3 := ⟨_, rfl⟩
                have hw : set5o W' g (j * 5) q E1 E2 E3 = XX := hX.symm
                unfold set5o at hw
                rw [hw]
                subst hX
                exact ⟨_, _, rfl, HV.out.other (by decide), Off.done (by omega), On.new (hfin (fun _ _ => True) (fillTo F i (j + 1)) _ E1 E2 E3 hNN HNEW.out (fun a b h _ => ⟨trivial, by unfold fillTo; by_cases e : a < i ∨ (a = i ∧ b < j); rw [if_pos e, if_pos (by omega)]; rw [if_neg e, if_neg (by omega)]⟩)), hE.step (by simp [hp]), by simp [hz]⟩
            · intro l a' W' hr hI
              obtain ⟨V, x16, rfl, hv, hZ, hM0, hE, hz⟩ := hI
              have a0 := not_ready (i := 0) hr hz rfl (by simp [Region.binds])
              have a1 := not_ready (i := 1) hr hz rfl (by simp [Region.binds, a0])
              have a2 := not_ready (i := 2) hr hz rfl (by simp [Region.binds, a0, a1])
              have a3 := not_ready (i := 3) hr hz rfl (by simp [Region.binds, a0, a1, a2])
              have a4 := not_ready (i := 4) hr hz rfl (by simp [Region.binds, a0, a1, a2, a3])
              have a5 := not_ready (i := 5) hr hz rfl (by simp [Region.binds, a0, a1, a2, a3, a4])
              have a6 := not_ready (i := 6) hr hz rfl (by simp [Region.binds, a0, a1, a2, a3, a4, a5])
              have a7 := not_ready (i := 7) hr hz rfl (by simp [Region.binds, a0, a1, a2, a3, a4, a5, a6])
              have a8 := not_ready (i := 8) hr hz rfl (by simp [Region.binds, a0, a1, a2, a3, a4, a5, a6, a7])
              have a9 := not_ready (i := 9) hr hz rfl (by simp [Region.binds, a0, a1, a2, a3, a4, a5, a6, a7, a8])
              have a10 := not_ready (i := 10) hr hz rfl (by simp [Region.binds, a0, a1, a2, a3, a4, a5, a6, a7, a8, a9])
              have a11 := not_ready (i := 11) hr hz rfl (by simp [Region.binds, a0, a1, a2, a3, a4, a5, a6, a7, a8, a9, a10])
              have a12 := not_ready (i := 12) hr hz rfl (by simp [Region.binds, a0, a1, a2, a3, a4, a5, a6, a7, a8, a9, a10, a11])
              have a13 := not_ready (i := 13) hr hz rfl (by simp [Region.binds, a0, a1, a2, a3, a4, a5, a6, a7, a8, a9, a10, a11, a12])
              have a14 := not_ready (i := 14) hr hz rfl (by simp [Region.binds, a0, a1, a2, a3, a4, a5, a6, a7, a8, a9, a10, a11, a12, a13])
              have a15 := not_ready (i := 15) hr hz rfl (by simp [Region.binds, a0, a1, a2, a3, a4, a5, a6, a7, a8, a9, a10, a11, a12, a13, a14])
              have a16 := not_ready (i := 16) hr hz rfl (by simp [Region.binds, a0, a1, a2, a3, a4, a5, a6, a7, a8, a9, a10, a11, a12, a13, a14, a15])
              have a17 := not_ready (i := 17) hr hz rfl (by simp [Region.binds, a0, a1, a2, a3, a4, a5, a6, a7, a8, a9, a10, a11, a12, a13, a14, a15, a16])
              have a18 := not_ready (i := 18) hr hz rfl (by simp [Region.binds, a0, a1, a2, a3, a4, a5, a6, a7, a8, a9, a10, a11, a12, a13, a14, a15, a16, a17])
              have hY := hM0.get a18
              clear hr hz hv hZ a0 a1 a2 a3 a4 a5 a6 a7 a8 a9 a10 a11 a12 a13 a14 a15 a16 a17 a18 hM0 hE
              go_wp2_with fail
              go_roundw
              case rel => exact ⟨j + 1, by omega, by go_num, hY⟩
              case measure => simp [intOf]; omega
            · exact ⟨fun zz => List.getD [u31, u32, u33, u34, u35, u36, u37, u38, u39, u40, u41, u42, u43, u44, u45, u46, u47, u48, undef] zz undef, _, rfl, OnFix.start, Off.new ⟨((Below.refl _ _).drew), fun h => absurd h (by decide)⟩, fun h => absurd h (by decide), Edg.start, by simp⟩
        · obtain rfl : j = n := by omega
          have hst := hB.cong (D' := fun _ _ => True) (f' := F) (fun a b ha hb _ => ⟨trivial, (if_pos (by omega)).symm⟩)
          have HST := Lib.hid hst
          clear hst hB
          go_wp2_with fail
          go_roundw
          case rel => exact ⟨i + 1, by omega, by go_num, HST.out⟩
          case measure => simp [intOf]; omega
    · obtain rfl : i = n := by omega
      go_wp2_with fail
      go_ret
      exact ⟨_, rfl, WkP.ofMk hB (fun _ _ => trivial) (fun h => h)⟩
end Go.Proofs.Ytdpjknjlhchmcaa
