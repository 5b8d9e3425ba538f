/- The program's 'Definite'. The law 'NumDeterminants': the walk. The law 'NumGram': its closure; sizes; sums. The law 'NumGram': the walk. Rows over slices of slices: a slice of slices of structs of three int64s, opened. The statement Rows.NumGramSaid: for every input the law returns true, and each argument reads behind the call as it read before. No condition. -/
import Derived.Test.YtdpjknjlhchmcaaNM7
import Derived.Test.YtdpjknjlhchmcaaNM6
import Derived.Test.YtdpjknjlhchmcaaNM4
import Derived.Test.YtdpjknjlhchmcaaNM3
import Derived.Test.YtdpjknjlhchmcaaRows
import Derived.Laws.IdiomArrays
namespace Go.Proofs.Ytdpjknjlhchmcaa
open Go.RowKit Pl
set_option linter.unusedVariables false
set_option linter.unusedSimpArgs false
/-- What 'Definite' hands back. -/
def RetDef (w : World) (n B : Nat) (h : Nat → Nat → Cx) (e : Ending) (w' : World) : Prop :=
  (¬ Herm n h ∧ e = .returned (.tuple #[.bool false, .slice none 0 0, .int .i64 1]) ∧ Below w.heap.size w w') ∨
  (Herm n h ∧ defF n n 0 h idm = none ∧ e = .returned (.tuple #[.bool true, .slice none 0 0, .int .i64 0]) ∧ Below w.heap.size w w') ∨
  (Herm n h ∧ ∃ q g c, defF n n 0 h idm = some q ∧ e = .returned (.tuple #[.bool false, .slice (some ⟨g, 0, none⟩) n c, .int .i64 0]) ∧ NumsP w' (some ⟨g, 0, none⟩) n q ∧ (∀ j, j < n → sz (16 * B + 16) (q j)) ∧ Below w.heap.size w w')
theorem def_next {n a : Nat} {g v : Nat → Nat → Cx} {Q : Option (Nat → Cx)} (ha : a < n) (h : defF n (n - a) a g v = Q) :
    (if cmpC (g a a) Cx.zero < 0 then some (v a) else if g a a = Cx.zero then (if crK n g a < n then some (crV g v a (crK n g a)) else defF n (n - (a + 1)) (a + 1) g v) else defF n (n - (a + 1)) (a + 1) (gdn a g) (vdn a g v)) = Q := by
  rw [← h, show n - a = (n - (a + 1)) + 1 by omega]
  rfl
set_option maxRecDepth 100000 in
set_option maxHeartbeats 40000000 in
theorem definite_any (w : World) (A : Option Addr) (n c K0 : Nat) (N : Nat → Nat) (f : Nat → Nat → Cx) (hM : MatP w A n N f) (hn : n ≤ 5) (hN : ∀ i, i < n → N i = n) (hK : 1 ≤ K0) (hB : 100 * bd K0 n + 100 ≤ 137438953472) (hS : ∀ i k, i < n → k < n → sz K0 (f i k)) :
    Calls Try.prog 23 #[.slice A n c] w (RetDef w n (bd K0 n) f) := by
  have hsq : Valid n N ∧ colN n N = n := by
    unfold Valid colN
    by_cases h : n = 0
    · exact ⟨.inl h, by rw [if_pos h, h]⟩
    · have h0 := hN 0 (by omega)
      exact ⟨.inr ⟨by omega, by omega, fun i hi => by rw [hN i hi, h0]⟩, by rw [if_neg h, h0]⟩
  have HSQ := Lib.hid (square_any w A n c N f hM (by omega) (fun i hi => by rw [hN i hi]; omega) true ⟨fun _ => hsq, fun _ => rfl⟩)
  have HCP := Lib.hid (fun (W : World) (h : MatP W A n (fun _ => n) f) => copied_any W A .none n c n 0 0 (fun _ => 0) f f h (MatP.none W _ _) (by omega) (by omega) (by omega) (fun h => h) (fun j hj => absurd hj (Nat.not_lt_zero _)))
  have hid : idn (n : Int) = n := by unfold idn; rw [if_neg (by omega), if_neg (by omega)]; omega
  have HID := Lib.hid (fun (W : World) => identity_mk W (n : Int))
  rw [hid] at HID
  have HM := Lib.hid (hM.congN hN)
  have HBD := Lib.hid (fun c (h : c ≤ n) => show 100 * bd K0 c + 100 ≤ 137438953472 from Nat.le_trans (Nat.add_le_add_right (Nat.mul_le_mul_left 100 (bd_mono K0 c n h)) 100) hB)
  have HK1 := Lib.hid (fun c => Nat.le_trans hK (bd_le K0 c))
  have HMO := Lib.hid (fun c (h : c ≤ n) => bd_mono K0 c n h)
  have HS0 := Lib.hid (show ∀ i k, i < n → k < n → sz (bd K0 0) (f i k) from hS)
  have HSX := Lib.hid (show ∀ i k, i < n → k < n → sz 137438953472 (f i k) from fun i k hi hk => (hS i k hi hk).mono (by have := bd_le K0 n; omega))
  have HI0 := Lib.hid (show ∀ i k, i < n → k < n → sz (bd K0 0) (idm i k) from fun i k _ _ => by
    unfold idm
    split
    · exact sz_one.mono hK
    · exact sz_int0.mono hK)
  obtain ⟨Q, hQ⟩ : ∃ q, q = defF n n 0 f idm := ⟨_, rfl⟩
  have HQ := Lib.hid hQ
  clear hM hsq hN hK hB hS hid hQ
  have hm0 : True := trivial
  go_enter Try.func23, Try.ntmps23
  go_wp2_with fail
  refine HSQ.out.mono ?_
  rintro e w1 ⟨rfl, hb⟩
  have HB := Lib.hid hb
  replace HM := Lib.hid (HM.out.to hb)
  clear hb HSQ
  go_upto_region 4 with fail
  go_loopw [21] (fun i (wr : World) => ∃ a : Nat, a ≤ n ∧ i = .int .i64 a ∧ Below w1.heap.size w1 wr ∧ Hid (∀ r k, r < a → k < n → f r k = (f k r).conj)) (fun i _ => n - (intOf i).toNat)
  case atStart => exact ⟨0, Nat.zero_le _, rfl, Below.refl _ _, Lib.hid (fun r k h => absurd h (Nat.not_lt_zero _))⟩
  case round =>
    obtain ⟨a, ha, rfl, hb, HH⟩ := hrel
    by_cases han : a < n
    · clear HCP HID HBD HK1 HS0 HI0 HMO HQ
      obtain ⟨R, K, g1, g2⟩ := HM.out.to hb
      obtain ⟨bA, fo, rfl, hlA, r1⟩ := g1 a han
      obtain ⟨ga, ea, _⟩ := g2 a han 0 (show 0 < n by omega)
      rw [ea] at r1
      obtain ⟨Ka, hKa⟩ : ∃ x, x = K a := ⟨_, rfl⟩
      rw [← hKa] at r1
      have HG := Lib.hid (And.intro g1 g2)
      have HEA := Lib.hid ea
      have HBW := Lib.hid hb
      have i1 : (0 : Int) ≤ (a : Int) := by omega
      have i2 : (a : Int) < (n : Int) := by omega
      obtain ⟨wb, hwb⟩ : ∃ X : World, X = wr := ⟨_, rfl⟩
      rw [← hwb] at HG HBW hlA r1 ⊢
      clear g1 g2 hb hwb ea hKa HM
      go_upto_region 7 with fail
      go_loopw [28] (fun i (wr : World) => ∃ k : Nat, k ≤ n ∧ i = .int .i64 k ∧ Below wb.heap.size wb wr ∧ Hid (∀ r, r < k → f a r = (f r a).conj)) (fun i _ => n - (intOf i).toNat)
      case atStart => exact ⟨0, Nat.zero_le _, rfl, Below.refl _ _, Lib.hid (fun r h => absurd h (Nat.not_lt_zero _))⟩
      case round =>
        obtain ⟨k, hk, rfl, hb, HA⟩ := hrel
        by_cases hkn : k < n
        · obtain ⟨g1, g2⟩ := HG.out
          obtain ⟨gx, ex, hpx⟩ := g2 a han k hkn
          rw [HEA.out] at ex
          injection ex with ex; injection ex with ex; subst ex
          obtain ⟨b', fo', eb, hlB, p1⟩ := g1 k hkn
          injection eb with eb; injection eb with eb1 eb2; subst eb1 eb2
          obtain ⟨gk, ek, hpy⟩ := g2 k hkn a han
          rw [ek] at p1
          obtain ⟨Kk, hKk⟩ : ∃ x, x = K k := ⟨_, rfl⟩
          rw [← hKk] at p1
          obtain ⟨A1, A2, A3, hcs, hN⟩ := hpx.to hb
          obtain ⟨B1, B2, B3, hds, hMM0⟩ := hpy.to hb
          have r2 := World.block_lt_of_cell? wr ⟨ga, _, none⟩ hcs.1
          have p2 := World.block_lt_of_cell? wr ⟨gk, _, none⟩ hds.1
          have p3 := keepc hb p1 hlA
          have hlA2 := Nat.lt_of_lt_of_le hlA hb.size
          obtain ⟨x, hx⟩ : ∃ x, x = f a k := ⟨_, rfl⟩
          obtain ⟨y, hy⟩ : ∃ y, y = f k a := ⟨_, rfl⟩
          rw [← hx] at hcs hN
          rw [← hy] at hds hMM0
          obtain ⟨bb, hbb⟩ : ∃ b, decide (x = y.conj) = b := ⟨_, rfl⟩
          have zx : sz 137438953472 x := by rw [hx]; exact HSX.out a k han hkn
          have zy : sz 137438953472 y := by rw [hy]; exact HSX.out k a hkn han
          have ZZ := Lib.hid (And.intro zx (And.intro (sz_conj zy) hbb))
          have HXY := Lib.hid (And.intro hx hy)
          have HBB := Lib.hid hb
          have i3 : (0 : Int) ≤ (k : Int) := by omega
          have i4 : (k : Int) < (n : Int) := by omega
          clear hb hpx hpy hx hy zx zy hbb g1 g2 ek hKk p1
          go_upto_region 9 with fail
          refine wp_region_any (by kernel_rfl) ?_
          refine wpAny_inv (fun l a' w' => ∃ V : Nat → Value, ∃ xc11 xc12 xc13 : Value, a' = ⟨List.toArray (.slice (some ⟨bA, fo, none⟩) n c :: undef :: u2 :: u3 :: u4 :: .int .i64 ↑a :: .slice (some ⟨ga, 0, none⟩) n Ka :: .int .i64 ↑k :: undef :: undef :: undef :: undef :: undef :: undef :: undef :: undef :: .slice (some ⟨bA, fo, none⟩) n c :: .bool true :: .bool false :: .slice (some ⟨bA, fo, none⟩) n c :: .int .i64 ↑n :: .int .i64 ↑a :: .bool true :: .int .i64 ↑a :: .pointer (some { block := bA, off := fo + a }) :: .slice (some ⟨ga, 0, none⟩) n Ka :: .slice (some ⟨ga, 0, none⟩) n Ka :: .int .i64 ↑n :: .int .i64 ↑k :: .bool true :: .int .i64 ↑k :: V 0 :: V 1 :: V 2 :: V 3 :: V 4 :: V 5 :: V 6 :: V 7 :: V 8 :: V 9 :: V 10 :: xc11 :: xc12 :: xc13 :: u45 :: u46 :: undef :: undef :: undef :: undef :: undef :: undef :: undef :: undef :: undef :: undef :: undef :: undef :: undef :: undef :: undef :: undef :: undef :: undef :: undef :: undef :: undef :: undef :: undef :: undef :: undef :: undef :: undef :: undef :: undef :: undef :: undef :: undef :: undef :: undef :: undef :: undef :: undef :: undef :: undef :: undef :: undef :: undef :: undef :: undef :: undef :: undef :: undef :: undef :: undef :: undef :: undef :: undef :: undef :: undef :: undef :: undef :: undef :: undef :: undef :: undef :: undef :: undef :: undef :: undef :: undef :: undef :: undef :: undef :: undef :: undef :: undef :: undef :: undef :: undef :: undef :: undef :: undef :: undef :: undef :: undef :: undef :: undef :: undef :: undef :: undef :: undef :: undef :: undef :: undef :: undef :: undef :: undef :: undef :: undef :: undef :: undef :: undef :: undef :: undef :: undef :: undef :: undef :: undef :: undef :: undef :: undef :: undef :: undef :: undef :: undef :: undef :: undef :: []), []⟩ ∧ OnFix l V (fun zz => List.getD [.slice (some ⟨ga, 0, none⟩) n Ka, .int .i64 k, .pointer (some ⟨ga, k * 5, none⟩), .agg #[.bool (sn (na x)), .slice A1 (ln (ab (na x))) (ln (ab (na x))), .bool (sn (nb x)), .slice A2 (ln (ab (nb x))) (ln (ab (nb x))), .slice A3 (ln (un x)) (ln (un x))], .slice (some ⟨bA, fo, none⟩) n c, .int .i64 k, .pointer (some ⟨bA, fo + k, none⟩), .slice (some ⟨gk, 0, none⟩) n Kk, .int .i64 a, .pointer (some ⟨gk, a * 5, none⟩), .agg #[.bool (sn (na y)), .slice B1 (ln (ab (na y))) (ln (ab (na y))), .bool (sn (nb y)), .slice B2 (ln (ab (nb y))) (ln (ab (nb y))), .slice B3 (ln (un y)) (ln (un y))], undef, undef, undef] zz undef) [0, 1, 2, 3, 4, 5, 6, 7, 8, 9, 10] ∧ (Below wr.heap.size wr w' ∧ On l 11 (SlotNum w' xc11 (y.conj)) ∧ On l 12 (SlotB w' xc12 bb)) ∧ On l 12 (xc12 = .bool bb) ∧ On l 13 (xc13 = .bool (!bb)) ∧ l.size = 14) ?_ ?_ _ _ _ _ (by decide) ?_
          · intro l a' W' i hi hI
            obtain ⟨V, xc11, xc12, xc13, rfl, hv, hZ, hP12, hP13, hz⟩ := hI
            obtain ⟨hlt, hoff, hpre⟩ := ready_pre hi
            have hc : i ∈ [0, 1, 2, 3, 4, 5, 6, 7, 8, 9, 10, 11, 12, 13] := (by decide : ∀ i, i < 14 → i ∈ [0, 1, 2, 3, 4, 5, 6, 7, 8, 9, 10, 11, 12, 13]) i hlt
            simp only [List.mem_cons, List.not_mem_nil, or_false] at hc
            clear hi hlt
            rcases hc with rfl | rfl | rfl | rfl | rfl | rfl | rfl | rfl | rfl | rfl | rfl | rfl | rfl | rfl <;> (have hp := hpre _ rfl; simp [Region.binds] at hp; clear hpre)
            · skip
              have HV := Lib.hid hv
              clear hv
              refine wpOp_go rfl rfl (fun K hK => ?_)
              go_simp
              refine hK _ _ ?_
              exact ⟨_, _, _, _, rfl, HV.out.new (x := .slice (some ⟨ga, 0, none⟩) n Ka) rfl, (fun ⟨hb0, y11, y12⟩ => ⟨hb0, y11.keep (by decide), y12.keep (by decide)⟩) hZ, hP12.keep (j := 0) (by decide), hP13.keep (j := 0) (by decide), by simp [hz]⟩
            · skip
              have HV := Lib.hid hv
              clear hv
              refine wpOp_go rfl rfl (fun K hK => ?_)
              go_simp
              refine hK _ _ ?_
              exact ⟨_, _, _, _, rfl, HV.out.new (x := .int .i64 k) rfl, (fun ⟨hb0, y11, y12⟩ => ⟨hb0, y11.keep (by decide), y12.keep (by decide)⟩) hZ, hP12.keep (j := 1) (by decide), hP13.keep (j := 1) (by decide), by simp [hz]⟩
            · skip
              have e0 : V 0 = .slice (some ⟨ga, 0, none⟩) n Ka := hv.get 0 (by decide) (by simp [hp])
              have e1 : V 1 = .int .i64 k := hv.get 1 (by decide) (by simp [hp])
              have HV := Lib.hid ((hv.fixE e0 rfl).fixE e1 rfl)
              clear hv
              simp only [e0, e1]
              refine wpOp_go rfl rfl (fun K hK => ?_)
              go_simp
              refine hK _ _ ?_
              exact ⟨_, _, _, _, rfl, HV.out.new (x := .pointer (some ⟨ga, k * 5, none⟩)) rfl, (fun ⟨hb0, y11, y12⟩ => ⟨hb0, y11.keep (by decide), y12.keep (by decide)⟩) hZ, hP12.keep (j := 2) (by decide), hP13.keep (j := 2) (by decide), by simp [hz]⟩
            · skip
              have e2 : V 2 = .pointer (some ⟨ga, k * 5, none⟩) := hv.get 2 (by decide) (by simp [hp])
              have HV := Lib.hid (hv.fixE e2 rfl)
              clear hv
              simp only [e2]
              have hY := hZ
              obtain ⟨z0, z1, z2, z3, z4⟩ := hcs
              have y0 := keepc hY.1 z0 r2; have y1 := keepc hY.1 z1 r2; have y2 := keepc hY.1 z2 r2; have y3 := keepc hY.1 z3 r2; have y4 := keepc hY.1 z4 r2
              refine wpOp_go rfl rfl (fun K hK => ?_)
              go_simp
              refine hK _ _ ?_
              exact ⟨_, _, _, _, rfl, HV.out.new (x := .agg #[.bool (sn (na x)), .slice A1 (ln (ab (na x))) (ln (ab (na x))), .bool (sn (nb x)), .slice A2 (ln (ab (nb x))) (ln (ab (nb x))), .slice A3 (ln (un x)) (ln (un x))]) rfl, (fun ⟨hb0, y11, y12⟩ => ⟨hb0, y11.keep (by decide), y12.keep (by decide)⟩) hZ, hP12.keep (j := 3) (by decide), hP13.keep (j := 3) (by decide), by simp [hz]⟩
            · skip
              have HV := Lib.hid hv
              clear hv
              refine wpOp_go rfl rfl (fun K hK => ?_)
              go_simp
              refine hK _ _ ?_
              exact ⟨_, _, _, _, rfl, HV.out.new (x := .slice (some ⟨bA, fo, none⟩) n c) rfl, (fun ⟨hb0, y11, y12⟩ => ⟨hb0, y11.keep (by decide), y12.keep (by decide)⟩) hZ, hP12.keep (j := 4) (by decide), hP13.keep (j := 4) (by decide), by simp [hz]⟩
            · skip
              have HV := Lib.hid hv
              clear hv
              refine wpOp_go rfl rfl (fun K hK => ?_)
              go_simp
              refine hK _ _ ?_
              exact ⟨_, _, _, _, rfl, HV.out.new (x := .int .i64 k) rfl, (fun ⟨hb0, y11, y12⟩ => ⟨hb0, y11.keep (by decide), y12.keep (by decide)⟩) hZ, hP12.keep (j := 5) (by decide), hP13.keep (j := 5) (by decide), by simp [hz]⟩
            · skip
              have e4 : V 4 = .slice (some ⟨bA, fo, none⟩) n c := hv.get 4 (by decide) (by simp [hp])
              have e5 : V 5 = .int .i64 k := hv.get 5 (by decide) (by simp [hp])
              have HV := Lib.hid ((hv.fixE e4 rfl).fixE e5 rfl)
              clear hv
              simp only [e4, e5]
              refine wpOp_go rfl rfl (fun K hK => ?_)
              go_simp
              refine hK _ _ ?_
              exact ⟨_, _, _, _, rfl, HV.out.new (x := .pointer (some ⟨bA, fo + k, none⟩)) rfl, (fun ⟨hb0, y11, y12⟩ => ⟨hb0, y11.keep (by decide), y12.keep (by decide)⟩) hZ, hP12.keep (j := 6) (by decide), hP13.keep (j := 6) (by decide), by simp [hz]⟩
            · skip
              have e6 : V 6 = .pointer (some ⟨bA, fo + k, none⟩) := hv.get 6 (by decide) (by simp [hp])
              have HV := Lib.hid (hv.fixE e6 rfl)
              clear hv
              simp only [e6]
              have hY := hZ
              have z := keepc hY.1 p3 hlA2
              refine wpOp_go rfl rfl (fun K hK => ?_)
              go_simp
              refine hK _ _ ?_
              exact ⟨_, _, _, _, rfl, HV.out.new (x := .slice (some ⟨gk, 0, none⟩) n Kk) rfl, (fun ⟨hb0, y11, y12⟩ => ⟨hb0, y11.keep (by decide), y12.keep (by decide)⟩) hZ, hP12.keep (j := 7) (by decide), hP13.keep (j := 7) (by decide), by simp [hz]⟩
            · skip
              have HV := Lib.hid hv
              clear hv
              refine wpOp_go rfl rfl (fun K hK => ?_)
              go_simp
              refine hK _ _ ?_
              exact ⟨_, _, _, _, rfl, HV.out.new (x := .int .i64 a) rfl, (fun ⟨hb0, y11, y12⟩ => ⟨hb0, y11.keep (by decide), y12.keep (by decide)⟩) hZ, hP12.keep (j := 8) (by decide), hP13.keep (j := 8) (by decide), by simp [hz]⟩
            · skip
              have e7 : V 7 = .slice (some ⟨gk, 0, none⟩) n Kk := hv.get 7 (by decide) (by simp [hp])
              have e8 : V 8 = .int .i64 a := hv.get 8 (by decide) (by simp [hp])
              have HV := Lib.hid ((hv.fixE e7 rfl).fixE e8 rfl)
              clear hv
              simp only [e7, e8]
              refine wpOp_go rfl rfl (fun K hK => ?_)
              go_simp
              refine hK _ _ ?_
              exact ⟨_, _, _, _, rfl, HV.out.new (x := .pointer (some ⟨gk, a * 5, none⟩)) rfl, (fun ⟨hb0, y11, y12⟩ => ⟨hb0, y11.keep (by decide), y12.keep (by decide)⟩) hZ, hP12.keep (j := 9) (by decide), hP13.keep (j := 9) (by decide), by simp [hz]⟩
            · skip
              have e9 : V 9 = .pointer (some ⟨gk, a * 5, none⟩) := hv.get 9 (by decide) (by simp [hp])
              have HV := Lib.hid (hv.fixE e9 rfl)
              clear hv
              simp only [e9]
              have hY := hZ
              obtain ⟨z0, z1, z2, z3, z4⟩ := hds
              have y0 := keepc hY.1 z0 p2; have y1 := keepc hY.1 z1 p2; have y2 := keepc hY.1 z2 p2; have y3 := keepc hY.1 z3 p2; have y4 := keepc hY.1 z4 p2
              refine wpOp_go rfl rfl (fun K hK => ?_)
              go_simp
              refine hK _ _ ?_
              exact ⟨_, _, _, _, rfl, HV.out.new (x := .agg #[.bool (sn (na y)), .slice B1 (ln (ab (na y))) (ln (ab (na y))), .bool (sn (nb y)), .slice B2 (ln (ab (nb y))) (ln (ab (nb y))), .slice B3 (ln (un y)) (ln (un y))]) rfl, (fun ⟨hb0, y11, y12⟩ => ⟨hb0, y11.keep (by decide), y12.keep (by decide)⟩) hZ, hP12.keep (j := 10) (by decide), hP13.keep (j := 10) (by decide), by simp [hz]⟩
            · skip
              have e10 : V 10 = .agg #[.bool (sn (na y)), .slice B1 (ln (ab (na y))) (ln (ab (na y))), .bool (sn (nb y)), .slice B2 (ln (ab (nb y))) (ln (ab (nb y))), .slice B3 (ln (un y)) (ln (un y))] := hv.get 10 (by decide) (by simp [hp])
              have HV := Lib.hid (hv.fixE e10 rfl)
              clear hv
              simp only [e10]
              have hY := hZ
              refine wpOp_go rfl rfl (fun K hK => ?_)
              go_wp2_with (first | (go_at_call 12; refine (conj_any y B1 B2 B3 _ (hMM0.to hY.1)).mono ?_; rintro e wf ⟨E1, E2, E3, rfl, hNN, hb⟩))
              try refine hK _ _ ?_
              exact ⟨_, _, _, _, rfl, HV.out.other (by decide), ⟨hY.1.trans (hb.mono hY.1.size), On.new (⟨E1, E2, E3, rfl, hNN⟩), ((hY.2.2).keep (by decide)).map (fun h => h.to hb)⟩, hP12.keep (j := 11) (by decide), hP13.keep (j := 11) (by decide), by simp [hz]⟩
            · skip
              have e3 : V 3 = .agg #[.bool (sn (na x)), .slice A1 (ln (ab (na x))) (ln (ab (na x))), .bool (sn (nb x)), .slice A2 (ln (ab (nb x))) (ln (ab (nb x))), .slice A3 (ln (un x)) (ln (un x))] := hv.get 3 (by decide) (by simp [hp])
              have HV := Lib.hid (hv.fixE e3 rfl)
              clear hv
              simp only [e3]
              have hY := hZ
              obtain ⟨G1, G2, G3, eG, hMM⟩ := hY.2.1.get (by simp [hp])
              subst eG
              refine wpOp_go rfl rfl (fun K hK => ?_)
              go_wp2_with (first | (go_at_call 11; refine (same_to x y.conj A1 A2 A3 G1 G2 G3 _ (hN.to hY.1) hMM ZZ.out.1 ZZ.out.2.1 ZZ.out.2.2).mono ?_; rintro e wf ⟨rfl, hb⟩))
              try refine hK _ _ ?_
              exact ⟨_, _, _, _, rfl, HV.out.other (by decide), ⟨hY.1.trans (hb.mono hY.1.size), ((hY.2.1).keep (by decide)).map (fun h => h.to hb), On.new (rfl)⟩, On.new (rfl), hP13.keep (j := 12) (by decide), by simp [hz]⟩
            · skip
              have HV := Lib.hid hv
              clear hv
              have e12 := hP12.get (by simp [hp])
              subst e12
              refine wpOp_go rfl rfl (fun K hK => ?_)
              go_simp
              refine hK _ _ ?_
              exact ⟨_, _, _, _, rfl, HV.out.other (by decide), (fun ⟨hb0, y11, y12⟩ => ⟨hb0, y11.keep (by decide), y12.keep (by decide)⟩) hZ, hP12.keep (j := 13) (by decide), On.new (rfl), by simp [hz]⟩
          · intro l a' W' hr hI
            obtain ⟨V, xc11, xc12, xc13, rfl, hv, hZ, hP12, hP13, hz⟩ := hI
            have a0 := not_ready (i := 0) hr hz rfl (by simp [Region.binds])
            have a1 := not_ready (i := 1) hr hz rfl (by simp [Region.binds, a0])
            have a2 := not_ready (i := 2) hr hz rfl (by simp [Region.binds, a0, a1])
            have a3 := not_ready (i := 3) hr hz rfl (by simp [Region.binds, a0, a1, a2])
            have a4 := not_ready (i := 4) hr hz rfl (by simp [Region.binds, a0, a1, a2, a3])
            have a5 := not_ready (i := 5) hr hz rfl (by simp [Region.binds, a0, a1, a2, a3, a4])
            have a6 := not_ready (i := 6) hr hz rfl (by simp [Region.binds, a0, a1, a2, a3, a4, a5])
            have a7 := not_ready (i := 7) hr hz rfl (by simp [Region.binds, a0, a1, a2, a3, a4, a5, a6])
            have a8 := not_ready (i := 8) hr hz rfl (by simp [Region.binds, a0, a1, a2, a3, a4, a5, a6, a7])
            have a9 := not_ready (i := 9) hr hz rfl (by simp [Region.binds, a0, a1, a2, a3, a4, a5, a6, a7, a8])
            have a10 := not_ready (i := 10) hr hz rfl (by simp [Region.binds, a0, a1, a2, a3, a4, a5, a6, a7, a8, a9])
            have a11 := not_ready (i := 11) hr hz rfl (by simp [Region.binds, a0, a1, a2, a3, a4, a5, a6, a7, a8, a9, a10])
            have a12 := not_ready (i := 12) hr hz rfl (by simp [Region.binds, a0, a1, a2, a3, a4, a5, a6, a7, a8, a9, a10, a11])
            have a13 := not_ready (i := 13) hr hz rfl (by simp [Region.binds, a0, a1, a2, a3, a4, a5, a6, a7, a8, a9, a10, a11, a12])
            have hY : Below wr.heap.size wr W' ∧ (SlotNum W' xc11 (y.conj)) ∧ (SlotB W' xc12 bb) := ⟨hZ.1, hZ.2.1.get a11, hZ.2.2.get a12⟩
            have hQ13 := hP13.get a13
            clear hr hz hv hZ a0 a1 a2 a3 a4 a5 a6 a7 a8 a9 a10 a11 a12 a13 hP12 hP13
            rw [hQ13]
            have HBN := Lib.hid (HBB.out.trans (hY.1.mono HBB.out.size))
            clear hQ13 hY
            cases bb with
            | false =>
              have HNH := Lib.hid (show ¬ Herm n f from fun h => of_decide_eq_false ZZ.out.2.2 (by rw [HXY.out.1, HXY.out.2]; exact h a k han hkn))
              have HBF := Lib.hid ((HB.out.trans (HBW.out.mono HB.out.size)).trans (HBN.out.mono (HB.out.trans (HBW.out.mono HB.out.size)).size))
              clear HBN
              go_wp2_with fail
              exact bodyPost_ret (v := .tuple #[.bool false, .slice none 0 0, .int .i64 1]) (by simp [results, Try.results23, go_sem]) rfl (.inl ⟨HNH.out, rfl, HBF.out⟩)
            | true =>
              go_wp2_with fail
              go_roundw
              case rel => exact ⟨k + 1, by omega, by go_num, HBN.out, Lib.hid (fun r hr => by
                by_cases e : r = k
                · subst e
                  have := of_decide_eq_true ZZ.out.2.2
                  rw [HXY.out.1, HXY.out.2] at this
                  exact this
                · exact HA.out r (by omega))⟩
              case measure => simp [intOf]; omega
          · exact ⟨fun zz => List.getD [u31, u32, u33, u34, u35, u36, u37, u38, u39, u40, u41, u42, u43, u44] zz undef, _, _, _, rfl, OnFix.start, ⟨((Below.refl _ _).drew), fun h => absurd h (by decide), fun h => absurd h (by decide)⟩, fun h => absurd h (by decide), fun h => absurd h (by decide), by simp⟩
        · obtain rfl : k = n := by omega
          have HBN := Lib.hid (HBW.out.trans (hb.mono HBW.out.size))
          clear hb
          go_wp2_with fail
          go_roundw
          case rel => exact ⟨a + 1, by omega, by go_num, HBN.out, Lib.hid (fun r j hr hj => by
            by_cases e : r = a
            · subst e; exact HA.out j hj
            · exact HH.out r j (by omega) hj)⟩
          case measure => simp [intOf]; omega
    · obtain rfl : a = n := by omega
      have HHE := Lib.hid (show Herm a f from fun r k hr hk => HH.out r k hr hk)
      clear HH
      have HMB := Lib.hid (HM.out.to hb)
      replace HB := Lib.hid (HB.out.trans (hb.mono HB.out.size))
      obtain ⟨w2, hw2⟩ : ∃ X : World, X = wr := ⟨_, rfl⟩
      rw [← hw2] at HMB HB ⊢
      clear hb HM hw2
      go_wp2_with fail
      refine (HCP.out _ HMB.out).mono ?_
      rintro e w3 ⟨gO, rfl, hbld⟩
      have hW := (WkP.of hbld (fun h => h)).cong (f' := f) (fun i k hi hk => (if_pos hk).symm)
      obtain ⟨z, hz⟩ : ∃ z, z = w3.heap.size := ⟨_, rfl⟩
      rw [← hz] at hW
      have HZ := Lib.hid hz
      clear hbld HCP hz
      go_wp2_with fail
      refine (HID.out _).mono ?_
      rintro e w4 ⟨wE, vO, rfl, hbE, hE⟩
      have hb := hbE.trans (hE.below.mono hbE.size)
      have hD0 : DefS w2 z gO vO a f idm w4 := ⟨hW.to hb, FarR.of hE (by rw [HZ.out]; exact hbE.size)⟩
      clear hW hb hE hbE HID HZ
      obtain ⟨n, hnn⟩ : ∃ n, n = a := ⟨_, rfl⟩
      subst hnn
      have HQ0 := Lib.hid (show defF n (n - 0) 0 f idm = Q by rw [Nat.sub_zero]; exact HQ.out.symm)
      go_upto_region 15 with fail
      go_loopw [54] (fun i (wr : World) => ∃ (a : Nat) (g v : Nat → Nat → Cx), a ≤ n ∧ i = .int .i64 a ∧ DefS w2 z gO vO n g v wr ∧ Hid (defF n (n - a) a g v = Q) ∧ Hid (∀ i k, i < n → k < n → sz (bd K0 a) (g i k)) ∧ Hid (∀ i k, i < n → k < n → sz (bd K0 a) (v i k))) (fun i _ => n - (intOf i).toNat)
      case atStart => exact ⟨0, f, idm, Nat.zero_le _, rfl, hD0, HQ0, HS0, HI0⟩
      case round =>
        obtain ⟨a, g, v, ha2, rfl, hD, HDF, HSG, HSV⟩ := hrel
        clear hD0 HQ0 HS0 HI0 HMB
        by_cases han : a < n
        · obtain ⟨gro, kro, r1, r2, rz, r4⟩ := hD.1.row han
          obtain ⟨P1, P2, P3, ⟨y0, y1, y2, y3, y4⟩, hN⟩ := r4 a han
          obtain ⟨xo, hx⟩ : ∃ xo, xo = g a a := ⟨_, rfl⟩
          rw [← hx] at y0 y1 y2 y3 y4 hN
          have hbk := HBD.out a ha2
          have hk1 := HK1.out a
          obtain ⟨B, hBe⟩ : ∃ b, b = bd K0 a := ⟨_, rfl⟩
          rw [← hBe] at HSG HSV hbk hk1
          have HBE := Lib.hid hBe
          have zx : sz B xo := by rw [hx]; exact HSG.out a a han han
          have zx2 : sz 137438953472 xo := zx.mono (by omega)
          have zx3 : sz 1099511627776 xo := zx.mono (by omega)
          have HX := Lib.hid hx
          have hlO := hD.1.lt
          have HDD := Lib.hid hD
          have i1 : (0 : Int) ≤ (a : Int) := by omega
          have i2 : (a : Int) < (n : Int) := by omega
          have wi : IntKind.i64.wrap ((a : Int) + 1) = (a : Int) + 1 := by have := wrapi_nat (a := a + 1) (by omega); simpa using this
          clear hD hx hBe zx r4
          go_wp2_with fail
          refine (cmp_zero0 xo P1 P2 P3 _ hN zx2).mono ?_
          rintro e w5 ⟨rfl, hb⟩
          replace HDD := Lib.hid (HDD.out.to hb)
          replace hN := hN.to hb
          replace r1 := keepc hb r1 hlO
          replace y0 := keepc hb y0 r2; replace y1 := keepc hb y1 r2; replace y2 := keepc hb y2 r2; replace y3 := keepc hb y3 r2; replace y4 := keepc hb y4 r2
          replace hlO := Nat.lt_of_lt_of_le hlO hb.size
          replace r2 := Nat.lt_of_lt_of_le r2 hb.size
          clear hb
          by_cases hc : cmpC xo Cx.zero < 0
          · have t1 : decide (cmpC xo Cx.zero < 0) = true := decide_eq_true hc
            have HQ1 : Hid (some (v a) = Q) := Lib.hid (by
              have := def_next han HDF.out
              rw [← HX.out, if_pos hc] at this
              exact this)
            clear y0 y1 y2 y3 y4 r1 r2
            obtain ⟨gv, cv, s1, s2⟩ := HDD.out.2.row han
            have hlv : vO < w5.heap.size := HDD.out.2.2.1
            have HS2 := Lib.hid s2
            clear s2
            have hbw := HDD.out.1.below
            have HBF := Lib.hid (HB.out.trans (hbw.mono HB.out.size))
            clear hbw
            go_wp2_with fail
            go_quiet (fail)
            go_wp2_with fail
            refine bodyPost_ret (v := .tuple #[.bool false, .slice (some ⟨gv, 0, none⟩) n cv, .int .i64 0]) (by simp [results, Try.results23, go_sem]) rfl ?_
            exact .inr (.inr ⟨HHE.out, _, gv, cv, by rw [← HQ.out]; exact HQ1.out.symm, rfl, HS2.out.to (below_drewN (Below.refl _ _) _), fun j hj => (HSV.out a j han hj).mono (by have := HMO.out a ha2; have := HBE.out; omega), below_drewN HBF.out _⟩)
          · have t1 : decide (cmpC xo Cx.zero < 0) = false := decide_eq_false hc
            have HQ1 := Lib.hid (def_next han HDF.out)
            have HQ2 : Hid ((if xo = Cx.zero then (if crK n g a < n then some (crV g v a (crK n g a)) else defF n (n - (a + 1)) (a + 1) g v) else defF n (n - (a + 1)) (a + 1) (gdn a g) (vdn a g v)) = Q) := Lib.hid (by
              have := HQ1.out
              rw [← HX.out, if_neg hc] at this
              exact this)
            have hc2 : 0 ≤ cmpC xo Cx.zero := by omega
            clear HQ1 HDF
            have HCR := Lib.hid (crossed_any w5 gO vO n a n n B g v HDD.out.1.mat HDD.out.2.mat (by omega) han hk1 hbk HSG.out HSV.out)
            go_wp2_with fail
            refine HCR.out.mono ?_
            rintro e w6 (⟨hno, rfl, hb⟩ | ⟨hz, hck, u, rfl, hL⟩)
            · clear HCR
              have HNO := Lib.hid hno
              replace HDD := Lib.hid (HDD.out.to hb)
              replace hN := hN.to hb
              replace r1 := keepc hb r1 hlO
              replace y0 := keepc hb y0 r2; replace y1 := keepc hb y1 r2; replace y2 := keepc hb y2 r2; replace y3 := keepc hb y3 r2; replace y4 := keepc hb y4 r2
              replace hlO := Nat.lt_of_lt_of_le hlO hb.size
              replace r2 := Nat.lt_of_lt_of_le r2 hb.size
              clear hb hno
              by_cases hz : xo = Cx.zero
              · have hcl := la13 hz
                have HQ3 : Hid (defF n (n - (a + 1)) (a + 1) g v = Q) := Lib.hid (by
                  have := HQ2.out
                  rw [if_pos hz, if_neg (fun h => HNO.out ⟨by rw [← HX.out]; exact hz, h⟩)] at this
                  exact this)
                clear hz
                go_wp2_with fail
                refine (clear_to xo P1 P2 P3 _ hN zx3 hcl).mono ?_
                rintro e w7 ⟨rfl, hb⟩
                have HDN := Lib.hid (HDD.out.to hb)
                clear y0 y1 y2 y3 y4 r1 r2 hb HDD hN
                go_wp2_with fail
                go_roundw
                case rel =>
                  have hmo := bd_mono K0 a (a + 1) (Nat.le_succ a)
                  have hbe := HBE.out
                  exact ⟨a + 1, g, v, by omega, by go_num, HDN.out, HQ3, Lib.hid (fun i k hi hk => (HSG.out i k hi hk).mono (by omega)), Lib.hid (fun i k hi hk => (HSV.out i k hi hk).mono (by omega))⟩
                case measure => simp [intOf]; omega
              · have hcl := la14 hz
                have HXZ : Hid (g a a ≠ Cx.zero) := Lib.hid (by rw [← HX.out]; exact hz)
                have HQ3 : Hid (defF n (n - (a + 1)) (a + 1) (gdn a g) (vdn a g v) = Q) := Lib.hid (by
                  have := HQ2.out
                  rw [if_neg hz] at this
                  exact this)
                clear hz
                go_wp2_with fail
                refine (clear_to xo P1 P2 P3 _ hN zx3 hcl).mono ?_
                rintro e w7 ⟨rfl, hb⟩
                have hDN := (HDD.out.to hb).cong (gdT_start' (i := a)) (vdT_start (g := g) (i := a))
                clear y0 y1 y2 y3 y4 r1 r2 hb HDD hN hlO rz HQ2 HNO zx2 zx3 t1 hcl
                go_upto_region 24 with fail
                go_loopw [12] (fun q (wr : World) => ∃ k : Nat, a < k ∧ k ≤ n ∧ q = .int .i64 k ∧ DefS w2 z gO vO n (gdT a g k) (vdT a g v k) wr) (fun q _ => n - (intOf q).toNat)
                case atStart => exact ⟨a + 1, by omega, by omega, by go_num, hDN⟩
                case round =>
                  obtain ⟨k, hk1', hk2, rfl, hD⟩ := hrel
                  clear hDN
                  by_cases hkn : k < n
                  · obtain ⟨gr, kr, r1, r2, rz, r4⟩ := hD.1.row han
                    obtain ⟨A1, A2, A3, hcs, hN⟩ := r4 k hkn
                    obtain ⟨B1, B2, B3, hds, hMM0⟩ := r4 a han
                    rw [gdT_i] at hcs hN hds hMM0
                    obtain ⟨x, hx⟩ : ∃ x, x = g a k := ⟨_, rfl⟩
                    obtain ⟨y, hy⟩ : ∃ x, x = g a a := ⟨_, rfl⟩
                    rw [← hx] at hcs hN
                    rw [← hy] at hds hMM0
                    have zx : sz B x := by rw [hx]; exact HSG.out a k han hkn
                    have zy : sz B y := by rw [hy]; exact HSG.out a a han han
                    have hy0 : y ≠ Cx.zero := by rw [hy]; exact HXZ.out
                    have zF := sz_div2 hk1 zx zy hy0
                    have i3 : (0 : Int) ≤ (k : Int) := by omega
                    have i4 : (k : Int) < (n : Int) := by omega
                    have hlO := hD.1.lt
                    have hzw := hD.1.2.1.2
                    have HDD := Lib.hid hD
                    have ZZ := Lib.hid (And.intro (zx.mono (show B ≤ 137438953472 by omega)) (And.intro (zy.mono (show B ≤ 137438953472 by omega)) hy0))
                    have ZF := Lib.hid zF
                    have HXY := Lib.hid (And.intro hx hy)
                    clear hD r4 hx hy zx zy hy0 zF
                    go_upto_region 26 with fail
                    refine wp_region_any (by kernel_rfl) ?_
                    refine wpAny_inv (fun l a' w' => ∃ V2 : Nat → Value, ∃ xd14 xd15 xd16 xd17 xd18 xd20 : Value, a' = ⟨List.toArray (.slice A n c :: undef :: u2 :: u3 :: u4 :: u5 :: u6 :: u7 :: .slice (some ⟨gO, 0, none⟩) n n :: .slice (some ⟨vO, 0, none⟩) n n :: .int .i64 ↑a :: .slice none 0 0 :: .int .i64 ↑k :: xd18 :: xd20 :: u15 :: .slice A n c :: .bool true :: .bool false :: .slice A n c :: .int .i64 ↑n :: .int .i64 ↑n :: .bool false :: u23 :: u24 :: u25 :: u26 :: u27 :: u28 :: u29 :: u30 :: u31 :: u32 :: u33 :: u34 :: u35 :: u36 :: u37 :: u38 :: u39 :: u40 :: u41 :: u42 :: u43 :: u44 :: u45 :: u46 :: .slice A n c :: .slice (some ⟨gO, 0, none⟩) n n :: .slice A n c :: .int .i64 ↑n :: .slice (some ⟨vO, 0, none⟩) n n :: .slice (some ⟨gO, 0, none⟩) n n :: .int .i64 ↑n :: .int .i64 ↑a :: .bool true :: .int .i64 ↑a :: .slice (some ⟨gO, 0, none⟩) n n :: .int .i64 ↑a :: .pointer (some ⟨gO, a, none⟩) :: .slice (some ⟨gro, 0, none⟩) n kro :: .int .i64 ↑a :: .pointer (some { block := gro, off := a * 5 }) :: .agg #[.bool (sn (na xo)), .slice P1 (ln (ab (na xo))) (ln (ab (na xo))), .bool (sn (nb xo)), .slice P2 (ln (ab (nb xo))) (ln (ab (nb xo))), .slice P3 (ln (un xo)) (ln (un xo))] :: .agg #[.bool false, .slice none 0 0, .bool false, .slice none 0 0, .slice none 0 0] :: .int .i64 (cmpC xo Cx.zero) :: .bool false :: u67 :: u68 :: u69 :: u70 :: .slice (some ⟨gO, 0, none⟩) n n :: .slice (some ⟨vO, 0, none⟩) n n :: .int .i64 ↑a :: .slice none 0 0 :: .slice none 0 0 :: .bool false :: u77 :: .slice (some ⟨gO, 0, none⟩) n n :: .int .i64 ↑a :: .pointer (some ⟨gO, a, none⟩) :: .slice (some ⟨gro, 0, none⟩) n kro :: .int .i64 ↑a :: .pointer (some { block := gro, off := a * 5 }) :: .agg #[.bool (sn (na xo)), .slice P1 (ln (ab (na xo))) (ln (ab (na xo))), .bool (sn (nb xo)), .slice P2 (ln (ab (nb xo))) (ln (ab (nb xo))), .slice P3 (ln (un xo)) (ln (un xo))] :: .bool true :: .bool false :: .int .i64 ↑a :: .int .i64 (↑a + 1) :: .int .i64 ↑k :: .slice (some ⟨gO, 0, none⟩) n n :: .int .i64 ↑n :: .bool true :: u93 :: u94 :: xd15 :: V2 0 :: V2 1 :: V2 2 :: V2 3 :: V2 4 :: V2 5 :: V2 6 :: V2 7 :: V2 8 :: V2 9 :: V2 10 :: V2 11 :: V2 12 :: V2 13 :: xd14 :: xd16 :: xd17 :: u113 :: u114 :: u115 :: u116 :: u117 :: u118 :: u119 :: u120 :: u121 :: u122 :: u123 :: u124 :: u125 :: u126 :: u127 :: u128 :: u129 :: u130 :: u131 :: u132 :: u133 :: u134 :: u135 :: u136 :: u137 :: u138 :: u139 :: u140 :: u141 :: u142 :: u143 :: u144 :: u145 :: u146 :: u147 :: u148 :: u149 :: u150 :: u151 :: u152 :: u153 :: u154 :: u155 :: u156 :: u157 :: u158 :: []), []⟩ ∧ OnFix l V2 (fun zz => List.getD [.slice (some ⟨gO, 0, none⟩) n n, .int .i64 a, .pointer (some ⟨gO, a, none⟩), .slice (some ⟨gr, 0, none⟩) n kr, .int .i64 k, .pointer (some ⟨gr, k * 5, none⟩), .agg #[.bool (sn (na x)), .slice A1 (ln (ab (na x))) (ln (ab (na x))), .bool (sn (nb x)), .slice A2 (ln (ab (nb x))) (ln (ab (nb x))), .slice A3 (ln (un x)) (ln (un x))], .slice (some ⟨gO, 0, none⟩) n n, .int .i64 a, .pointer (some ⟨gO, a, none⟩), .slice (some ⟨gr, 0, none⟩) n kr, .int .i64 a, .pointer (some ⟨gr, a * 5, none⟩), .agg #[.bool (sn (na y)), .slice B1 (ln (ab (na y))) (ln (ab (na y))), .bool (sn (nb y)), .slice B2 (ln (ab (nb y))) (ln (ab (nb y))), .slice B3 (ln (un y)) (ln (un y))], undef, undef, undef, undef, undef, undef, undef] zz undef) [0, 1, 2, 3, 4, 5, 6, 7, 8, 9, 10, 11, 12, 13] ∧ Off l 19 (Below wr.heap.size wr w' ∧ On l 14 (SlotNumE w' xd14 (x.div y)) ∧ On l 15 (SlotNumE w' xd15 (x.div y)) ∧ On l 16 (SlotNum w' xd16 (x.div y)) ∧ On l 18 (AtV wr.heap.size w' xd18)) ∧ On l 19 (∃ gs, xd18 = .pointer (some ⟨gs, 0, none⟩) ∧ wr.heap.size ≤ gs ∧ HasP w' gs (x.div y) ∧ Below wr.heap.size wr w') ∧ On l 15 (∃ A, xd15 = .tuple #[A, .int .i64 0]) ∧ Edg l [(19, 16), (16, 15), (15, 14), (14, 6), (6, 5), (5, 3), (14, 13), (13, 12), (12, 10), (19, 18)] ∧ l.size = 21) ?_ ?_ _ _ _ _ (by decide) ?_
                    · intro l a' W' i hi hI
                      obtain ⟨V2, xd14, xd15, xd16, xd17, xd18, xd20, rfl, hv, hZ, hM0, hP15, hE, hz⟩ := hI
                      obtain ⟨hlt, hoff, hpre⟩ := ready_pre hi
                      have hc : i ∈ [0, 1, 2, 3, 4, 5, 6, 7, 8, 9, 10, 11, 12, 13, 14, 15, 16, 17, 18, 19, 20] := (by decide : ∀ i, i < 21 → i ∈ [0, 1, 2, 3, 4, 5, 6, 7, 8, 9, 10, 11, 12, 13, 14, 15, 16, 17, 18, 19, 20]) i hlt
                      simp only [List.mem_cons, List.not_mem_nil, or_false] at hc
                      clear hi hlt
                      rcases hc with rfl | rfl | rfl | rfl | rfl | rfl | rfl | rfl | rfl | rfl | rfl | rfl | rfl | rfl | rfl | rfl | rfl | rfl | rfl | rfl | rfl <;> (have hp := hpre _ rfl; simp [Region.binds] at hp; clear hpre)
                      · skip
                        have HV := Lib.hid hv
                        clear hv
                        refine wpOp_go rfl rfl (fun K hK => ?_)
                        go_simp
                        refine hK _ _ ?_
                        exact ⟨_, _, _, _, _, _, _, rfl, HV.out.new (x := .slice (some ⟨gO, 0, none⟩) n n) rfl, hZ.keep.map (fun ⟨hb0, y14, y15, y16, y18⟩ => ⟨hb0, y14.keep (by decide), y15.keep (by decide), y16.keep (by decide), y18.keep (by decide)⟩), hM0.keep (by decide), hP15.keep (j := 0) (by decide), hE.mono (by decide), by simp [hz]⟩
                      · skip
                        have HV := Lib.hid hv
                        clear hv
                        refine wpOp_go rfl rfl (fun K hK => ?_)
                        go_simp
                        refine hK _ _ ?_
                        exact ⟨_, _, _, _, _, _, _, rfl, HV.out.new (x := .int .i64 a) rfl, hZ.keep.map (fun ⟨hb0, y14, y15, y16, y18⟩ => ⟨hb0, y14.keep (by decide), y15.keep (by decide), y16.keep (by decide), y18.keep (by decide)⟩), hM0.keep (by decide), hP15.keep (j := 1) (by decide), hE.mono (by decide), by simp [hz]⟩
                      · skip
                        have e0 : V2 0 = .slice (some ⟨gO, 0, none⟩) n n := hv.get 0 (by decide) (by simp [hp])
                        have e1 : V2 1 = .int .i64 a := hv.get 1 (by decide) (by simp [hp])
                        have HV := Lib.hid ((hv.fixE e0 rfl).fixE e1 rfl)
                        clear hv
                        simp only [e0, e1]
                        refine wpOp_go rfl rfl (fun K hK => ?_)
                        go_simp
                        refine hK _ _ ?_
                        exact ⟨_, _, _, _, _, _, _, rfl, HV.out.new (x := .pointer (some ⟨gO, a, none⟩)) rfl, hZ.keep.map (fun ⟨hb0, y14, y15, y16, y18⟩ => ⟨hb0, y14.keep (by decide), y15.keep (by decide), y16.keep (by decide), y18.keep (by decide)⟩), hM0.keep (by decide), hP15.keep (j := 2) (by decide), hE.mono (by decide), by simp [hz]⟩
                      · skip
                        have e2 : V2 2 = .pointer (some ⟨gO, a, none⟩) := hv.get 2 (by decide) (by simp [hp])
                        have HV := Lib.hid (hv.fixE e2 rfl)
                        clear hv
                        simp only [e2]
                        have hY := hZ.get (fun h => off hoff (hE.get 5 3 (by decide) (hE.get 6 5 (by decide) (hE.get 14 6 (by decide) (hE.get 15 14 (by decide) (hE.get 16 15 (by decide) (hE.get 19 16 (by decide) h)))))))
                        have z := keepc hY.1 r1 hlO
                        refine wpOp_go rfl rfl (fun K hK => ?_)
                        go_simp
                        refine hK _ _ ?_
                        exact ⟨_, _, _, _, _, _, _, rfl, HV.out.new (x := .slice (some ⟨gr, 0, none⟩) n kr) rfl, hZ.keep.map (fun ⟨hb0, y14, y15, y16, y18⟩ => ⟨hb0, y14.keep (by decide), y15.keep (by decide), y16.keep (by decide), y18.keep (by decide)⟩), hM0.keep (by decide), hP15.keep (j := 3) (by decide), hE.mono (by decide), by simp [hz]⟩
                      · skip
                        have HV := Lib.hid hv
                        clear hv
                        refine wpOp_go rfl rfl (fun K hK => ?_)
                        go_simp
                        refine hK _ _ ?_
                        exact ⟨_, _, _, _, _, _, _, rfl, HV.out.new (x := .int .i64 k) rfl, hZ.keep.map (fun ⟨hb0, y14, y15, y16, y18⟩ => ⟨hb0, y14.keep (by decide), y15.keep (by decide), y16.keep (by decide), y18.keep (by decide)⟩), hM0.keep (by decide), hP15.keep (j := 4) (by decide), hE.mono (by decide), by simp [hz]⟩
                      · skip
                        have e3 : V2 3 = .slice (some ⟨gr, 0, none⟩) n kr := hv.get 3 (by decide) (by simp [hp])
                        have e4 : V2 4 = .int .i64 k := hv.get 4 (by decide) (by simp [hp])
                        have HV := Lib.hid ((hv.fixE e3 rfl).fixE e4 rfl)
                        clear hv
                        simp only [e3, e4]
                        refine wpOp_go rfl rfl (fun K hK => ?_)
                        go_simp
                        refine hK _ _ ?_
                        exact ⟨_, _, _, _, _, _, _, rfl, HV.out.new (x := .pointer (some ⟨gr, k * 5, none⟩)) rfl, hZ.keep.map (fun ⟨hb0, y14, y15, y16, y18⟩ => ⟨hb0, y14.keep (by decide), y15.keep (by decide), y16.keep (by decide), y18.keep (by decide)⟩), hM0.keep (by decide), hP15.keep (j := 5) (by decide), hE.step (by simp [hp]), by simp [hz]⟩
                      · skip
                        have e5 : V2 5 = .pointer (some ⟨gr, k * 5, none⟩) := hv.get 5 (by decide) (by simp [hp])
                        have HV := Lib.hid (hv.fixE e5 rfl)
                        clear hv
                        simp only [e5]
                        have hY := hZ.get (fun h => off hoff (hE.get 14 6 (by decide) (hE.get 15 14 (by decide) (hE.get 16 15 (by decide) (hE.get 19 16 (by decide) h)))))
                        obtain ⟨z0, z1, z2, z3, z4⟩ := hcs
                        have y0 := keepc hY.1 z0 r2; have y1 := keepc hY.1 z1 r2; have y2 := keepc hY.1 z2 r2; have y3 := keepc hY.1 z3 r2; have y4 := keepc hY.1 z4 r2
                        refine wpOp_go rfl rfl (fun K hK => ?_)
                        go_simp
                        refine hK _ _ ?_
                        exact ⟨_, _, _, _, _, _, _, rfl, HV.out.new (x := .agg #[.bool (sn (na x)), .slice A1 (ln (ab (na x))) (ln (ab (na x))), .bool (sn (nb x)), .slice A2 (ln (ab (nb x))) (ln (ab (nb x))), .slice A3 (ln (un x)) (ln (un x))]) rfl, hZ.keep.map (fun ⟨hb0, y14, y15, y16, y18⟩ => ⟨hb0, y14.keep (by decide), y15.keep (by decide), y16.keep (by decide), y18.keep (by decide)⟩), hM0.keep (by decide), hP15.keep (j := 6) (by decide), hE.step (by simp [hp]), by simp [hz]⟩
                      · skip
                        have HV := Lib.hid hv
                        clear hv
                        refine wpOp_go rfl rfl (fun K hK => ?_)
                        go_simp
                        refine hK _ _ ?_
                        exact ⟨_, _, _, _, _, _, _, rfl, HV.out.new (x := .slice (some ⟨gO, 0, none⟩) n n) rfl, hZ.keep.map (fun ⟨hb0, y14, y15, y16, y18⟩ => ⟨hb0, y14.keep (by decide), y15.keep (by decide), y16.keep (by decide), y18.keep (by decide)⟩), hM0.keep (by decide), hP15.keep (j := 7) (by decide), hE.mono (by decide), by simp [hz]⟩
                      · skip
                        have HV := Lib.hid hv
                        clear hv
                        refine wpOp_go rfl rfl (fun K hK => ?_)
                        go_simp
                        refine hK _ _ ?_
                        exact ⟨_, _, _, _, _, _, _, rfl, HV.out.new (x := .int .i64 a) rfl, hZ.keep.map (fun ⟨hb0, y14, y15, y16, y18⟩ => ⟨hb0, y14.keep (by decide), y15.keep (by decide), y16.keep (by decide), y18.keep (by decide)⟩), hM0.keep (by decide), hP15.keep (j := 8) (by decide), hE.mono (by decide), by simp [hz]⟩
                      · skip
                        have e7 : V2 7 = .slice (some ⟨gO, 0, none⟩) n n := hv.get 7 (by decide) (by simp [hp])
                        have e8 : V2 8 = .int .i64 a := hv.get 8 (by decide) (by simp [hp])
                        have HV := Lib.hid ((hv.fixE e7 rfl).fixE e8 rfl)
                        clear hv
                        simp only [e7, e8]
                        refine wpOp_go rfl rfl (fun K hK => ?_)
                        go_simp
                        refine hK _ _ ?_
                        exact ⟨_, _, _, _, _, _, _, rfl, HV.out.new (x := .pointer (some ⟨gO, a, none⟩)) rfl, hZ.keep.map (fun ⟨hb0, y14, y15, y16, y18⟩ => ⟨hb0, y14.keep (by decide), y15.keep (by decide), y16.keep (by decide), y18.keep (by decide)⟩), hM0.keep (by decide), hP15.keep (j := 9) (by decide), hE.mono (by decide), by simp [hz]⟩
                      · skip
                        have e9 : V2 9 = .pointer (some ⟨gO, a, none⟩) := hv.get 9 (by decide) (by simp [hp])
                        have HV := Lib.hid (hv.fixE e9 rfl)
                        clear hv
                        simp only [e9]
                        have hY := hZ.get (fun h => off hoff (hE.get 12 10 (by decide) (hE.get 13 12 (by decide) (hE.get 14 13 (by decide) (hE.get 15 14 (by decide) (hE.get 16 15 (by decide) (hE.get 19 16 (by decide) h)))))))
                        have z := keepc hY.1 r1 hlO
                        refine wpOp_go rfl rfl (fun K hK => ?_)
                        go_simp
                        refine hK _ _ ?_
                        exact ⟨_, _, _, _, _, _, _, rfl, HV.out.new (x := .slice (some ⟨gr, 0, none⟩) n kr) rfl, hZ.keep.map (fun ⟨hb0, y14, y15, y16, y18⟩ => ⟨hb0, y14.keep (by decide), y15.keep (by decide), y16.keep (by decide), y18.keep (by decide)⟩), hM0.keep (by decide), hP15.keep (j := 10) (by decide), hE.mono (by decide), by simp [hz]⟩
                      · skip
                        have HV := Lib.hid hv
                        clear hv
                        refine wpOp_go rfl rfl (fun K hK => ?_)
                        go_simp
                        refine hK _ _ ?_
                        exact ⟨_, _, _, _, _, _, _, rfl, HV.out.new (x := .int .i64 a) rfl, hZ.keep.map (fun ⟨hb0, y14, y15, y16, y18⟩ => ⟨hb0, y14.keep (by decide), y15.keep (by decide), y16.keep (by decide), y18.keep (by decide)⟩), hM0.keep (by decide), hP15.keep (j := 11) (by decide), hE.mono (by decide), by simp [hz]⟩
                      · skip
                        have e10 : V2 10 = .slice (some ⟨gr, 0, none⟩) n kr := hv.get 10 (by decide) (by simp [hp])
                        have e11 : V2 11 = .int .i64 a := hv.get 11 (by decide) (by simp [hp])
                        have HV := Lib.hid ((hv.fixE e10 rfl).fixE e11 rfl)
                        clear hv
                        simp only [e10, e11]
                        refine wpOp_go rfl rfl (fun K hK => ?_)
                        go_simp
                        refine hK _ _ ?_
                        exact ⟨_, _, _, _, _, _, _, rfl, HV.out.new (x := .pointer (some ⟨gr, a * 5, none⟩)) rfl, hZ.keep.map (fun ⟨hb0, y14, y15, y16, y18⟩ => ⟨hb0, y14.keep (by decide), y15.keep (by decide), y16.keep (by decide), y18.keep (by decide)⟩), hM0.keep (by decide), hP15.keep (j := 12) (by decide), hE.step (by simp [hp]), by simp [hz]⟩
                      · skip
                        have e12 : V2 12 = .pointer (some ⟨gr, a * 5, none⟩) := hv.get 12 (by decide) (by simp [hp])
                        have HV := Lib.hid (hv.fixE e12 rfl)
                        clear hv
                        simp only [e12]
                        have hY := hZ.get (fun h => off hoff (hE.get 14 13 (by decide) (hE.get 15 14 (by decide) (hE.get 16 15 (by decide) (hE.get 19 16 (by decide) h)))))
                        obtain ⟨z0, z1, z2, z3, z4⟩ := hds
                        have y0 := keepc hY.1 z0 r2; have y1 := keepc hY.1 z1 r2; have y2 := keepc hY.1 z2 r2; have y3 := keepc hY.1 z3 r2; have y4 := keepc hY.1 z4 r2
                        refine wpOp_go rfl rfl (fun K hK => ?_)
                        go_simp
                        refine hK _ _ ?_
                        exact ⟨_, _, _, _, _, _, _, rfl, HV.out.new (x := .agg #[.bool (sn (na y)), .slice B1 (ln (ab (na y))) (ln (ab (na y))), .bool (sn (nb y)), .slice B2 (ln (ab (nb y))) (ln (ab (nb y))), .slice B3 (ln (un y)) (ln (un y))]) rfl, hZ.keep.map (fun ⟨hb0, y14, y15, y16, y18⟩ => ⟨hb0, y14.keep (by decide), y15.keep (by decide), y16.keep (by decide), y18.keep (by decide)⟩), hM0.keep (by decide), hP15.keep (j := 13) (by decide), hE.step (by simp [hp]), by simp [hz]⟩
                      · skip
                        have e6 : V2 6 = .agg #[.bool (sn (na x)), .slice A1 (ln (ab (na x))) (ln (ab (na x))), .bool (sn (nb x)), .slice A2 (ln (ab (nb x))) (ln (ab (nb x))), .slice A3 (ln (un x)) (ln (un x))] := hv.get 6 (by decide) (by simp [hp])
                        have e13 : V2 13 = .agg #[.bool (sn (na y)), .slice B1 (ln (ab (na y))) (ln (ab (na y))), .bool (sn (nb y)), .slice B2 (ln (ab (nb y))) (ln (ab (nb y))), .slice B3 (ln (un y)) (ln (un y))] := hv.get 13 (by decide) (by simp [hp])
                        have HV := Lib.hid ((hv.fixE e6 rfl).fixE e13 rfl)
                        clear hv
                        simp only [e6, e13]
                        have hY := hZ.get (fun h => off hoff (hE.get 15 14 (by decide) (hE.get 16 15 (by decide) (hE.get 19 16 (by decide) h))))
                        refine wpOp_go rfl rfl (fun K hK => ?_)
                        go_wp2_with (first | (go_at_call 40; refine (div_num0 x y A1 A2 A3 B1 B2 B3 _ (hN.to hY.1) (hMM0.to hY.1) ZZ.out.1 ZZ.out.2.1 ZZ.out.2.2).mono ?_; rintro e wf ⟨E1, E2, E3, rfl, hNN, hb⟩))
                        try refine hK _ _ ?_
                        exact ⟨_, _, _, _, _, _, _, rfl, HV.out.other (by decide), Off.new ⟨hY.1.trans (hb.mono hY.1.size), On.new (⟨E1, E2, E3, rfl, hNN⟩), ((hY.2.2.1).keep (by decide)).map (fun h => h.to hb), ((hY.2.2.2.1).keep (by decide)).map (fun h => h.to hb), ((hY.2.2.2.2).keep (by decide)).map (fun h => h.to hb)⟩, fun h => absurd (hE.get 15 14 (by decide) (hE.get 16 15 (by decide) (hE.get 19 16 (by decide) (on_ne h (by decide))))) (off hoff), hP15.keep (j := 14) (by decide), hE.step (by simp [hp]), by simp [hz]⟩
                      · skip
                        have HV := Lib.hid hv
                        clear hv
                        have hY := hZ.get (fun h => off hoff (hE.get 16 15 (by decide) (hE.get 19 16 (by decide) h)))
                        obtain ⟨G1, G2, G3, eG, hMM⟩ := hY.2.1.get (by simp [hp])
                        subst eG
                        refine wpOp_go rfl rfl (fun K hK => ?_)
                        go_simp
                        refine hK _ _ ?_
                        exact ⟨_, _, _, _, _, _, _, rfl, HV.out.other (by decide), Off.new ⟨hY.1, ((hY.2.1).keep (by decide)).map (fun h => h), On.new (⟨G1, G2, G3, rfl, hMM⟩), ((hY.2.2.2.1).keep (by decide)).map (fun h => h), ((hY.2.2.2.2).keep (by decide)).map (fun h => h)⟩, fun h => absurd (hE.get 16 15 (by decide) (hE.get 19 16 (by decide) (on_ne h (by decide)))) (off hoff), On.new (⟨_, rfl⟩), hE.step (by simp [hp]), by simp [hz]⟩
                      · skip
                        have HV := Lib.hid hv
                        clear hv
                        have hY := hZ.get (fun h => off hoff (hE.get 19 16 (by decide) h))
                        obtain ⟨G1, G2, G3, eG, hMM⟩ := hY.2.2.1.get (by simp [hp])
                        subst eG
                        refine wpOp_go rfl rfl (fun K hK => ?_)
                        go_simp
                        refine hK _ _ ?_
                        exact ⟨_, _, _, _, _, _, _, rfl, HV.out.other (by decide), Off.new ⟨hY.1, ((hY.2.1).keep (by decide)).map (fun h => h), ((hY.2.2.1).keep (by decide)).map (fun h => h), On.new (⟨G1, G2, G3, rfl, hMM⟩), ((hY.2.2.2.2).keep (by decide)).map (fun h => h)⟩, fun h => absurd (hE.get 19 16 (by decide) (on_ne h (by decide))) (off hoff), hP15.keep (j := 16) (by decide), hE.step (by simp [hp]), by simp [hz]⟩
                      · skip
                        have HV := Lib.hid hv
                        clear hv
                        obtain ⟨E0, e0⟩ := hP15.get (by simp [hp])
                        subst e0
                        refine wpOp_go rfl rfl (fun K hK => ?_)
                        go_simp
                        refine hK _ _ ?_
                        exact ⟨_, _, _, _, _, _, _, rfl, HV.out.other (by decide), hZ.keep.map (fun ⟨hb0, y14, y15, y16, y18⟩ => ⟨hb0, y14.keep (by decide), y15.keep (by decide), y16.keep (by decide), y18.keep (by decide)⟩), hM0.keep (by decide), hP15.keep (j := 17) (by decide), hE.mono (by decide), by simp [hz]⟩
                      · skip
                        have HV := Lib.hid hv
                        clear hv
                        have hY := hZ.get (fun h => off hoff (hE.get 19 18 (by decide) h))
                        refine wpOp_go rfl rfl (fun K hK => ?_)
                        go_simp
                        refine hK _ _ ?_
                        exact ⟨_, _, _, _, _, _, _, rfl, HV.out.other (by decide), Off.new ⟨hY.1.trans (((Below.refl _ _).alloc (Nat.le_refl _) _).mono hY.1.size), ((hY.2.1).keep (by decide)).map (fun h => h.to ((Below.refl _ _).alloc (Nat.le_refl _) _)), ((hY.2.2.1).keep (by decide)).map (fun h => h.to ((Below.refl _ _).alloc (Nat.le_refl _) _)), ((hY.2.2.2.1).keep (by decide)).map (fun h => h.to ((Below.refl _ _).alloc (Nat.le_refl _) _)), On.new (AtV.new hY.1.size)⟩, fun h => absurd (hE.get 19 18 (by decide) (on_ne h (by decide))) (off hoff), hP15.keep (j := 18) (by decide), hE.mono (by decide), by simp [hz]⟩
                      · skip
                        have HV := Lib.hid hv
                        clear hv
                        have hY := hZ.get (off hoff)
                        obtain ⟨E1, E2, E3, eE, hNN⟩ := hY.2.2.2.1.get (by simp [hp])
                        subst eE
                        obtain ⟨gs, e2, hgs, hv5⟩ := hY.2.2.2.2.get (by simp [hp])
                        subst e2
                        have hv6 := hv5
                        obtain ⟨_, ⟨cc, u1, u2, u3, u4, d0, d1, d2, d3, d4⟩, ⟨f0, f1, f2, f3, f4⟩⟩ := hv5
                        refine wpOp_go rfl rfl (fun K hK => ?_)
                        go_simp
                        refine hK _ _ ?_
                        obtain ⟨XX, hX⟩ : ∃ XX : World, XX = set5 W' gs (x.div y) E1 E2 E3 := ⟨_, rfl⟩
                        have hw : set5 W' gs (x.div y) E1 E2 E3 = XX := hX.symm
                        unfold set5 at hw
                        rw [hw]
                        subst hX
                        exact ⟨_, _, _, _, _, _, _, rfl, HV.out.other (by decide), Off.done (by omega), On.new (⟨gs, rfl, hgs, hv6.putP hNN, set5_below hY.1 hgs⟩), hP15.keep (j := 19) (by decide), hE.step (by simp [hp]), by simp [hz]⟩
                      · skip
                        have HV := Lib.hid hv
                        clear hv
                        refine wpOp_go rfl rfl (fun K hK => ?_)
                        go_simp
                        refine hK _ _ ?_
                        exact ⟨_, _, _, _, _, _, _, rfl, HV.out.other (by decide), hZ.keep.map (fun ⟨hb0, y14, y15, y16, y18⟩ => ⟨hb0, y14.keep (by decide), y15.keep (by decide), y16.keep (by decide), y18.keep (by decide)⟩), hM0.keep (by decide), hP15.keep (j := 20) (by decide), hE.mono (by decide), by simp [hz]⟩
                    · intro l a' W' hr hI
                      obtain ⟨V2, xd14, xd15, xd16, xd17, xd18, xd20, rfl, hv, hZ, hM0, hP15, hE, hz⟩ := hI
                      have a0 := not_ready (i := 0) hr hz rfl (by simp [Region.binds])
                      have a1 := not_ready (i := 1) hr hz rfl (by simp [Region.binds, a0])
                      have a2 := not_ready (i := 2) hr hz rfl (by simp [Region.binds, a0, a1])
                      have a3 := not_ready (i := 3) hr hz rfl (by simp [Region.binds, a0, a1, a2])
                      have a4 := not_ready (i := 4) hr hz rfl (by simp [Region.binds, a0, a1, a2, a3])
                      have a5 := not_ready (i := 5) hr hz rfl (by simp [Region.binds, a0, a1, a2, a3, a4])
                      have a6 := not_ready (i := 6) hr hz rfl (by simp [Region.binds, a0, a1, a2, a3, a4, a5])
                      have a7 := not_ready (i := 7) hr hz rfl (by simp [Region.binds, a0, a1, a2, a3, a4, a5, a6])
                      have a8 := not_ready (i := 8) hr hz rfl (by simp [Region.binds, a0, a1, a2, a3, a4, a5, a6, a7])
                      have a9 := not_ready (i := 9) hr hz rfl (by simp [Region.binds, a0, a1, a2, a3, a4, a5, a6, a7, a8])
                      have a10 := not_ready (i := 10) hr hz rfl (by simp [Region.binds, a0, a1, a2, a3, a4, a5, a6, a7, a8, a9])
                      have a11 := not_ready (i := 11) hr hz rfl (by simp [Region.binds, a0, a1, a2, a3, a4, a5, a6, a7, a8, a9, a10])
                      have a12 := not_ready (i := 12) hr hz rfl (by simp [Region.binds, a0, a1, a2, a3, a4, a5, a6, a7, a8, a9, a10, a11])
                      have a13 := not_ready (i := 13) hr hz rfl (by simp [Region.binds, a0, a1, a2, a3, a4, a5, a6, a7, a8, a9, a10, a11, a12])
                      have a14 := not_ready (i := 14) hr hz rfl (by simp [Region.binds, a0, a1, a2, a3, a4, a5, a6, a7, a8, a9, a10, a11, a12, a13])
                      have a15 := not_ready (i := 15) hr hz rfl (by simp [Region.binds, a0, a1, a2, a3, a4, a5, a6, a7, a8, a9, a10, a11, a12, a13, a14])
                      have a16 := not_ready (i := 16) hr hz rfl (by simp [Region.binds, a0, a1, a2, a3, a4, a5, a6, a7, a8, a9, a10, a11, a12, a13, a14, a15])
                      have a17 := not_ready (i := 17) hr hz rfl (by simp [Region.binds, a0, a1, a2, a3, a4, a5, a6, a7, a8, a9, a10, a11, a12, a13, a14, a15, a16])
                      have a18 := not_ready (i := 18) hr hz rfl (by simp [Region.binds, a0, a1, a2, a3, a4, a5, a6, a7, a8, a9, a10, a11, a12, a13, a14, a15, a16, a17])
                      have a19 := not_ready (i := 19) hr hz rfl (by simp [Region.binds, a0, a1, a2, a3, a4, a5, a6, a7, a8, a9, a10, a11, a12, a13, a14, a15, a16, a17, a18])
                      have a20 := not_ready (i := 20) hr hz rfl (by simp [Region.binds, a0, a1, a2, a3, a4, a5, a6, a7, a8, a9, a10, a11, a12, a13, a14, a15, a16, a17, a18, a19])
                      have hY := hM0.get a19
                      clear hr hz hv hZ a0 a1 a2 a3 a4 a5 a6 a7 a8 a9 a10 a11 a12 a13 a14 a15 a16 a17 a18 a19 a20 hM0 hP15 hE
                      obtain ⟨gs, rfl, hgs, hvs, hbs⟩ := hY
                      obtain ⟨F, hF⟩ : ∃ q, q = x.div y := ⟨_, rfl⟩
                      rw [← hF] at hvs ZF
                      have HFQ : Hid (F = (g a k).div (g a a)) := Lib.hid (by rw [hF, HXY.out.1, HXY.out.2])
                      have hgz : z ≤ gs := Nat.le_trans hzw hgs
                      have hvw : vO < wr.heap.size := HDD.out.2.2.1
                      have hgv : gs ≠ vO := by omega
                      obtain ⟨w8, hw8⟩ : ∃ X : World, X = W' := ⟨_, rfl⟩
                      rw [← hw8] at hvs hbs ⊢
                      have hD8 := HDD.out.to hbs
                      obtain ⟨gv, cv, s1, s2⟩ := hD8.2.row hkn
                      obtain ⟨gi, ci, p1, p2⟩ := hD8.2.row han
                      have hlv : vO < w8.heap.size := hD8.2.2.1
                      obtain ⟨S1, S2, S3, hsc, hsn⟩ := hvs.slot
                      have hls := hvs.1
                      obtain ⟨vk, hvk⟩ : ∃ f, f = v k := ⟨_, rfl⟩
                      obtain ⟨vi, hvi⟩ : ∃ f, f = v a := ⟨_, rfl⟩
                      rw [vdT_at, ← hvk] at s2
                      rw [vdT_i, ← hvi] at p2
                      have zF := ZF.out
                      have ZN := Lib.hid (And.intro ((sz_neg zF).mono (show _ ≤ 137438953472 by omega)) (zF.mono (show _ ≤ 137438953472 by omega)))
                      have ZL : Hid (∀ j, j < n → sz 137438953472 (vk j) ∧ sz 137438953472 (vi j) ∧ sz 137438953472 (F.neg.mul (vi j))) := Lib.hid fun j hj => by
                        rw [hvk, hvi]
                        have za := HSV.out k j hkn hj
                        have zb := HSV.out a j han hj
                        exact ⟨za.mono (by omega), zb.mono (by omega), (sz_mul2 (sz_neg zF) zb).mono (by omega)⟩
                      obtain ⟨HF, hHF⟩ : ∃ f : Nat → Cx, f = fun j => (vk j).add (F.neg.mul (vi j)) := ⟨_, rfl⟩
                      have HHF := Lib.hid hHF
                      have HVF := Lib.hid (show HF = fun j => (v k j).add ((((g a k).div (g a a)).neg).mul (v a j)) by rw [hHF, hvk, hvi, HFQ.out])
                      replace HDD := Lib.hid hD8
                      have HSS := Lib.hid (And.intro s2 p2)
                      have HVS := Lib.hid hvs
                      clear hF HXY hcs hN hds hMM0 ZZ hbs hgs r1 r2 hlO hzw hvw hw8 hD8 s2 p2 hvk hvi zF hHF hvs rz
                      go_upto_region 27 with fail
                      refine wp_region_any (by kernel_rfl) ?_
                      refine wpAny_inv (fun l a' w' => ∃ V3 : Nat → Value, ∃ xe7 xe12 : Value, a' = ⟨List.toArray (.slice A n c :: undef :: u2 :: u3 :: u4 :: u5 :: u6 :: u7 :: .slice (some ⟨gO, 0, none⟩) n n :: .slice (some ⟨vO, 0, none⟩) n n :: .int .i64 ↑a :: .slice none 0 0 :: .int .i64 ↑k :: .pointer (some ⟨gs, 0, none⟩) :: xd20 :: u15 :: .slice A n c :: .bool true :: .bool false :: .slice A n c :: .int .i64 ↑n :: .int .i64 ↑n :: .bool false :: u23 :: u24 :: u25 :: u26 :: u27 :: u28 :: u29 :: u30 :: u31 :: u32 :: u33 :: u34 :: u35 :: u36 :: u37 :: u38 :: u39 :: u40 :: u41 :: u42 :: u43 :: u44 :: u45 :: u46 :: .slice A n c :: .slice (some ⟨gO, 0, none⟩) n n :: .slice A n c :: .int .i64 ↑n :: .slice (some ⟨vO, 0, none⟩) n n :: .slice (some ⟨gO, 0, none⟩) n n :: .int .i64 ↑n :: .int .i64 ↑a :: .bool true :: .int .i64 ↑a :: .slice (some ⟨gO, 0, none⟩) n n :: .int .i64 ↑a :: .pointer (some ⟨gO, a, none⟩) :: .slice (some ⟨gro, 0, none⟩) n kro :: .int .i64 ↑a :: .pointer (some { block := gro, off := a * 5 }) :: .agg #[.bool (sn (na xo)), .slice P1 (ln (ab (na xo))) (ln (ab (na xo))), .bool (sn (nb xo)), .slice P2 (ln (ab (nb xo))) (ln (ab (nb xo))), .slice P3 (ln (un xo)) (ln (un xo))] :: .agg #[.bool false, .slice none 0 0, .bool false, .slice none 0 0, .slice none 0 0] :: .int .i64 (cmpC xo Cx.zero) :: .bool false :: u67 :: u68 :: u69 :: u70 :: .slice (some ⟨gO, 0, none⟩) n n :: .slice (some ⟨vO, 0, none⟩) n n :: .int .i64 ↑a :: .slice none 0 0 :: .slice none 0 0 :: .bool false :: u77 :: .slice (some ⟨gO, 0, none⟩) n n :: .int .i64 ↑a :: .pointer (some ⟨gO, a, none⟩) :: .slice (some ⟨gro, 0, none⟩) n kro :: .int .i64 ↑a :: .pointer (some { block := gro, off := a * 5 }) :: .agg #[.bool (sn (na xo)), .slice P1 (ln (ab (na xo))) (ln (ab (na xo))), .bool (sn (nb xo)), .slice P2 (ln (ab (nb xo))) (ln (ab (nb xo))), .slice P3 (ln (un xo)) (ln (un xo))] :: .bool true :: .bool false :: .int .i64 ↑a :: .int .i64 (↑a + 1) :: .int .i64 ↑k :: .slice (some ⟨gO, 0, none⟩) n n :: .int .i64 ↑n :: .bool true :: u93 :: u94 :: xd15 :: V2 0 :: V2 1 :: V2 2 :: V2 3 :: V2 4 :: V2 5 :: V2 6 :: V2 7 :: V2 8 :: V2 9 :: V2 10 :: V2 11 :: V2 12 :: V2 13 :: xd14 :: xd16 :: xd17 :: V3 0 :: V3 1 :: V3 2 :: V3 3 :: V3 4 :: V3 5 :: V3 6 :: xe7 :: V3 8 :: V3 9 :: V3 10 :: V3 11 :: xe12 :: V3 13 :: u127 :: u128 :: u129 :: u130 :: u131 :: u132 :: u133 :: u134 :: u135 :: u136 :: u137 :: u138 :: u139 :: u140 :: u141 :: u142 :: u143 :: u144 :: u145 :: u146 :: u147 :: u148 :: u149 :: u150 :: u151 :: u152 :: u153 :: u154 :: u155 :: u156 :: u157 :: u158 :: []), []⟩ ∧ OnFix l V3 (fun zz => List.getD [.slice (some ⟨vO, 0, none⟩) n n, .int .i64 k, .slice (some ⟨vO, 0, none⟩) n n, .int .i64 k, .pointer (some ⟨vO, k, none⟩), .slice (some ⟨gv, 0, none⟩) n cv, .agg #[.bool (sn (na F)), .slice S1 (ln (ab (na F))) (ln (ab (na F))), .bool (sn (nb F)), .slice S2 (ln (ab (nb F))) (ln (ab (nb F))), .slice S3 (ln (un F)) (ln (un F))], undef, .slice (some ⟨vO, 0, none⟩) n n, .int .i64 a, .pointer (some ⟨vO, a, none⟩), .slice (some ⟨gi, 0, none⟩) n ci, undef, .pointer (some ⟨vO, k, none⟩), undef] zz undef) [0, 1, 2, 3, 4, 5, 6, 8, 9, 10, 11, 13] ∧ Off l 14 (Below w8.heap.size w8 w' ∧ On l 7 (SlotNum w' xe7 (F.neg)) ∧ On l 12 (ListP w8 w' n HF xe12)) ∧ On l 14 (HasP w' gs F ∧ DefS w2 z gO vO n (gdT a g k) (rowSet k HF (vdT a g v k)) w') ∧ Edg l [(14, 12), (12, 5), (12, 7), (7, 6), (12, 11)] ∧ l.size = 15) ?_ ?_ _ _ _ _ (by decide) ?_
                      · intro l a' W' i hi hI
                        obtain ⟨V3, xe7, xe12, rfl, hv, hZ, hM0, hE, hz⟩ := hI
                        obtain ⟨hlt, hoff, hpre⟩ := ready_pre hi
                        have hc : i ∈ [0, 1, 2, 3, 4, 5, 6, 7, 8, 9, 10, 11, 12, 13, 14] := (by decide : ∀ i, i < 15 → i ∈ [0, 1, 2, 3, 4, 5, 6, 7, 8, 9, 10, 11, 12, 13, 14]) i hlt
                        simp only [List.mem_cons, List.not_mem_nil, or_false] at hc
                        clear hi hlt
                        rcases hc with rfl | rfl | rfl | rfl | rfl | rfl | rfl | rfl | rfl | rfl | rfl | rfl | rfl | rfl | rfl <;> (have hp := hpre _ rfl; simp [Region.binds] at hp; clear hpre)
                        · skip
                          have HV := Lib.hid hv
                          clear hv
                          refine wpOp_go rfl rfl (fun K hK => ?_)
                          go_simp
                          refine hK _ _ ?_
                          exact ⟨_, _, _, rfl, HV.out.new (x := .slice (some ⟨vO, 0, none⟩) n n) rfl, hZ.keep.map (fun ⟨hb0, y7, y12⟩ => ⟨hb0, y7.keep (by decide), y12.keep (by decide)⟩), hM0.keep (by decide), hE.mono (by decide), by simp [hz]⟩
                        · skip
                          have HV := Lib.hid hv
                          clear hv
                          refine wpOp_go rfl rfl (fun K hK => ?_)
                          go_simp
                          refine hK _ _ ?_
                          exact ⟨_, _, _, rfl, HV.out.new (x := .int .i64 k) rfl, hZ.keep.map (fun ⟨hb0, y7, y12⟩ => ⟨hb0, y7.keep (by decide), y12.keep (by decide)⟩), hM0.keep (by decide), hE.mono (by decide), by simp [hz]⟩
                        · skip
                          have HV := Lib.hid hv
                          clear hv
                          refine wpOp_go rfl rfl (fun K hK => ?_)
                          go_simp
                          refine hK _ _ ?_
                          exact ⟨_, _, _, rfl, HV.out.new (x := .slice (some ⟨vO, 0, none⟩) n n) rfl, hZ.keep.map (fun ⟨hb0, y7, y12⟩ => ⟨hb0, y7.keep (by decide), y12.keep (by decide)⟩), hM0.keep (by decide), hE.mono (by decide), by simp [hz]⟩
                        · skip
                          have HV := Lib.hid hv
                          clear hv
                          refine wpOp_go rfl rfl (fun K hK => ?_)
                          go_simp
                          refine hK _ _ ?_
                          exact ⟨_, _, _, rfl, HV.out.new (x := .int .i64 k) rfl, hZ.keep.map (fun ⟨hb0, y7, y12⟩ => ⟨hb0, y7.keep (by decide), y12.keep (by decide)⟩), hM0.keep (by decide), hE.mono (by decide), by simp [hz]⟩
                        · skip
                          have e2 : V3 2 = .slice (some ⟨vO, 0, none⟩) n n := hv.get 2 (by decide) (by simp [hp])
                          have e3 : V3 3 = .int .i64 k := hv.get 3 (by decide) (by simp [hp])
                          have HV := Lib.hid ((hv.fixE e2 rfl).fixE e3 rfl)
                          clear hv
                          simp only [e2, e3]
                          refine wpOp_go rfl rfl (fun K hK => ?_)
                          go_simp
                          refine hK _ _ ?_
                          exact ⟨_, _, _, rfl, HV.out.new (x := .pointer (some ⟨vO, k, none⟩)) rfl, hZ.keep.map (fun ⟨hb0, y7, y12⟩ => ⟨hb0, y7.keep (by decide), y12.keep (by decide)⟩), hM0.keep (by decide), hE.mono (by decide), by simp [hz]⟩
                        · skip
                          have e4 : V3 4 = .pointer (some ⟨vO, k, none⟩) := hv.get 4 (by decide) (by simp [hp])
                          have HV := Lib.hid (hv.fixE e4 rfl)
                          clear hv
                          simp only [e4]
                          have hY := hZ.get (fun h => off hoff (hE.get 12 5 (by decide) (hE.get 14 12 (by decide) h)))
                          have z := keepc hY.1 s1 hlv
                          refine wpOp_go rfl rfl (fun K hK => ?_)
                          go_simp
                          refine hK _ _ ?_
                          exact ⟨_, _, _, rfl, HV.out.new (x := .slice (some ⟨gv, 0, none⟩) n cv) rfl, hZ.keep.map (fun ⟨hb0, y7, y12⟩ => ⟨hb0, y7.keep (by decide), y12.keep (by decide)⟩), hM0.keep (by decide), hE.mono (by decide), by simp [hz]⟩
                        · skip
                          have HV := Lib.hid hv
                          clear hv
                          have hY := hZ.get (fun h => off hoff (hE.get 7 6 (by decide) (hE.get 12 7 (by decide) (hE.get 14 12 (by decide) h))))
                          obtain ⟨z0, z1, z2, z3, z4⟩ := hsc
                          have y0 := keepc hY.1 z0 hls; have y1 := keepc hY.1 z1 hls; have y2 := keepc hY.1 z2 hls; have y3 := keepc hY.1 z3 hls; have y4 := keepc hY.1 z4 hls
                          refine wpOp_go rfl rfl (fun K hK => ?_)
                          go_simp
                          refine hK _ _ ?_
                          exact ⟨_, _, _, rfl, HV.out.new (x := .agg #[.bool (sn (na F)), .slice S1 (ln (ab (na F))) (ln (ab (na F))), .bool (sn (nb F)), .slice S2 (ln (ab (nb F))) (ln (ab (nb F))), .slice S3 (ln (un F)) (ln (un F))]) rfl, hZ.keep.map (fun ⟨hb0, y7, y12⟩ => ⟨hb0, y7.keep (by decide), y12.keep (by decide)⟩), hM0.keep (by decide), hE.mono (by decide), by simp [hz]⟩
                        · skip
                          have e6 : V3 6 = .agg #[.bool (sn (na F)), .slice S1 (ln (ab (na F))) (ln (ab (na F))), .bool (sn (nb F)), .slice S2 (ln (ab (nb F))) (ln (ab (nb F))), .slice S3 (ln (un F)) (ln (un F))] := hv.get 6 (by decide) (by simp [hp])
                          have HV := Lib.hid (hv.fixE e6 rfl)
                          clear hv
                          simp only [e6]
                          have hY := hZ.get (fun h => off hoff (hE.get 12 7 (by decide) (hE.get 14 12 (by decide) h)))
                          refine wpOp_go rfl rfl (fun K hK => ?_)
                          go_wp2_with (first | (go_at_call 14; refine (neg_any F S1 S2 S3 _ (hsn.to hY.1)).mono ?_; rintro e wf ⟨E1, E2, E3, rfl, hNN, hb⟩))
                          try refine hK _ _ ?_
                          exact ⟨_, _, _, rfl, HV.out.other (by decide), Off.new ⟨hY.1.trans (hb.mono hY.1.size), On.new (⟨E1, E2, E3, rfl, hNN⟩), ((hY.2.2).keep (by decide)).map (fun h => h.to hb)⟩, fun h => absurd (hE.get 12 7 (by decide) (hE.get 14 12 (by decide) (on_ne h (by decide)))) (off hoff), hE.step (by simp [hp]), by simp [hz]⟩
                        · skip
                          have HV := Lib.hid hv
                          clear hv
                          refine wpOp_go rfl rfl (fun K hK => ?_)
                          go_simp
                          refine hK _ _ ?_
                          exact ⟨_, _, _, rfl, HV.out.new (x := .slice (some ⟨vO, 0, none⟩) n n) rfl, hZ.keep.map (fun ⟨hb0, y7, y12⟩ => ⟨hb0, y7.keep (by decide), y12.keep (by decide)⟩), hM0.keep (by decide), hE.mono (by decide), by simp [hz]⟩
                        · skip
                          have HV := Lib.hid hv
                          clear hv
                          refine wpOp_go rfl rfl (fun K hK => ?_)
                          go_simp
                          refine hK _ _ ?_
                          exact ⟨_, _, _, rfl, HV.out.new (x := .int .i64 a) rfl, hZ.keep.map (fun ⟨hb0, y7, y12⟩ => ⟨hb0, y7.keep (by decide), y12.keep (by decide)⟩), hM0.keep (by decide), hE.mono (by decide), by simp [hz]⟩
                        · skip
                          have e8 : V3 8 = .slice (some ⟨vO, 0, none⟩) n n := hv.get 8 (by decide) (by simp [hp])
                          have e9 : V3 9 = .int .i64 a := hv.get 9 (by decide) (by simp [hp])
                          have HV := Lib.hid ((hv.fixE e8 rfl).fixE e9 rfl)
                          clear hv
                          simp only [e8, e9]
                          refine wpOp_go rfl rfl (fun K hK => ?_)
                          go_simp
                          refine hK _ _ ?_
                          exact ⟨_, _, _, rfl, HV.out.new (x := .pointer (some ⟨vO, a, none⟩)) rfl, hZ.keep.map (fun ⟨hb0, y7, y12⟩ => ⟨hb0, y7.keep (by decide), y12.keep (by decide)⟩), hM0.keep (by decide), hE.mono (by decide), by simp [hz]⟩
                        · skip
                          have e10 : V3 10 = .pointer (some ⟨vO, a, none⟩) := hv.get 10 (by decide) (by simp [hp])
                          have HV := Lib.hid (hv.fixE e10 rfl)
                          clear hv
                          simp only [e10]
                          have hY := hZ.get (fun h => off hoff (hE.get 12 11 (by decide) (hE.get 14 12 (by decide) h)))
                          have z := keepc hY.1 p1 hlv
                          refine wpOp_go rfl rfl (fun K hK => ?_)
                          go_simp
                          refine hK _ _ ?_
                          exact ⟨_, _, _, rfl, HV.out.new (x := .slice (some ⟨gi, 0, none⟩) n ci) rfl, hZ.keep.map (fun ⟨hb0, y7, y12⟩ => ⟨hb0, y7.keep (by decide), y12.keep (by decide)⟩), hM0.keep (by decide), hE.mono (by decide), by simp [hz]⟩
                        · skip
                          have e5 : V3 5 = .slice (some ⟨gv, 0, none⟩) n cv := hv.get 5 (by decide) (by simp [hp])
                          have e11 : V3 11 = .slice (some ⟨gi, 0, none⟩) n ci := hv.get 11 (by decide) (by simp [hp])
                          have HV := Lib.hid ((hv.fixE e5 rfl).fixE e11 rfl)
                          clear hv
                          simp only [e5, e11]
                          have hY := hZ.get (fun h => off hoff (hE.get 14 12 (by decide) h))
                          obtain ⟨G1, G2, G3, eG, hMM⟩ := hY.2.1.get (by simp [hp])
                          subst eG
                          refine wpOp_go rfl rfl (fun K hK => ?_)
                          go_wp2_with (first | (go_at_call 52; refine (mixed_any _ (some ⟨gv, 0, none⟩) (some ⟨gi, 0, none⟩) G1 G2 G3 n cv ci vk vi F.neg (HSS.out.1.to hY.1) (HSS.out.2.to hY.1) hMM (by omega) ZL.out ZN.out.1).mono ?_; rintro e wf ⟨uu, rfl, hL⟩; have hb := hL.1; rw [← HHF.out] at hL))
                          try refine hK _ _ ?_
                          exact ⟨_, _, _, rfl, HV.out.other (by decide), Off.new ⟨hY.1.trans (hb.mono hY.1.size), ((hY.2.1).keep (by decide)).map (fun h => h.to hb), On.new (hL.le hY.1)⟩, fun h => absurd (hE.get 14 12 (by decide) (on_ne h (by decide))) (off hoff), hE.step (by simp [hp]), by simp [hz]⟩
                        · skip
                          have e0 : V3 0 = .slice (some ⟨vO, 0, none⟩) n n := hv.get 0 (by decide) (by simp [hp])
                          have e1 : V3 1 = .int .i64 k := hv.get 1 (by decide) (by simp [hp])
                          have HV := Lib.hid ((hv.fixE e0 rfl).fixE e1 rfl)
                          clear hv
                          simp only [e0, e1]
                          refine wpOp_go rfl rfl (fun K hK => ?_)
                          go_simp
                          refine hK _ _ ?_
                          exact ⟨_, _, _, rfl, HV.out.new (x := .pointer (some ⟨vO, k, none⟩)) rfl, hZ.keep.map (fun ⟨hb0, y7, y12⟩ => ⟨hb0, y7.keep (by decide), y12.keep (by decide)⟩), hM0.keep (by decide), hE.mono (by decide), by simp [hz]⟩
                        · skip
                          have e13 : V3 13 = .pointer (some ⟨vO, k, none⟩) := hv.get 13 (by decide) (by simp [hp])
                          have HV := Lib.hid (hv.fixE e13 rfl)
                          clear hv
                          simp only [e13]
                          have hY := hZ.get (off hoff)
                          have hl := hY.2.2.get (by simp [hp])
                          obtain ⟨gu, cu, e2, _⟩ := hl.form (by omega)
                          subst e2
                          obtain ⟨⟨u0, a1⟩, a2, a3⟩ := HDD.out.setRow (L := 0) hY.1 hkn hl
                          obtain ⟨Sx, sa, sb, hSx⟩ := (HDD.out.to hY.1).box0 (by omega)
                          have hv3 := (HVS.out.to hY.1).setS (o := k) (v := .slice (some ⟨gu, 0, none⟩) n cu) hgv hSx
                          refine wpOp_go rfl rfl (fun K hK => ?_)
                          go_simp
                          refine hK _ _ ?_
                          exact ⟨_, _, _, rfl, HV.out.other (by decide), Off.done (by omega), On.new (⟨hv3, a3⟩), hE.step (by simp [hp]), by simp [hz]⟩
                      · intro l a' W' hr hI
                        obtain ⟨V3, xe7, xe12, rfl, hv, hZ, hM0, hE, hz⟩ := hI
                        have a0 := not_ready (i := 0) hr hz rfl (by simp [Region.binds])
                        have a1 := not_ready (i := 1) hr hz rfl (by simp [Region.binds, a0])
                        have a2 := not_ready (i := 2) hr hz rfl (by simp [Region.binds, a0, a1])
                        have a3 := not_ready (i := 3) hr hz rfl (by simp [Region.binds, a0, a1, a2])
                        have a4 := not_ready (i := 4) hr hz rfl (by simp [Region.binds, a0, a1, a2, a3])
                        have a5 := not_ready (i := 5) hr hz rfl (by simp [Region.binds, a0, a1, a2, a3, a4])
                        have a6 := not_ready (i := 6) hr hz rfl (by simp [Region.binds, a0, a1, a2, a3, a4, a5])
                        have a7 := not_ready (i := 7) hr hz rfl (by simp [Region.binds, a0, a1, a2, a3, a4, a5, a6])
                        have a8 := not_ready (i := 8) hr hz rfl (by simp [Region.binds, a0, a1, a2, a3, a4, a5, a6, a7])
                        have a9 := not_ready (i := 9) hr hz rfl (by simp [Region.binds, a0, a1, a2, a3, a4, a5, a6, a7, a8])
                        have a10 := not_ready (i := 10) hr hz rfl (by simp [Region.binds, a0, a1, a2, a3, a4, a5, a6, a7, a8, a9])
                        have a11 := not_ready (i := 11) hr hz rfl (by simp [Region.binds, a0, a1, a2, a3, a4, a5, a6, a7, a8, a9, a10])
                        have a12 := not_ready (i := 12) hr hz rfl (by simp [Region.binds, a0, a1, a2, a3, a4, a5, a6, a7, a8, a9, a10, a11])
                        have a13 := not_ready (i := 13) hr hz rfl (by simp [Region.binds, a0, a1, a2, a3, a4, a5, a6, a7, a8, a9, a10, a11, a12])
                        have a14 := not_ready (i := 14) hr hz rfl (by simp [Region.binds, a0, a1, a2, a3, a4, a5, a6, a7, a8, a9, a10, a11, a12, a13])
                        have hY := hM0.get a14
                        clear hr hz hv hZ a0 a1 a2 a3 a4 a5 a6 a7 a8 a9 a10 a11 a12 a13 a14 hM0 hE
                        obtain ⟨hvs, hD⟩ := hY
                        obtain ⟨w9, hw9⟩ : ∃ X : World, X = W' := ⟨_, rfl⟩
                        rw [← hw9] at hvs hD ⊢
                        have hD9 : DefS w2 z gO vO n (gdA a g k (a + 1)) (vdT a g v (k + 1)) w9 := hD.cong gdA_start (by rw [HVF.out]; exact vdT_next hk1')
                        clear hD hw9 HHF HVF HSS HDD HVS ZL ZN hsc hsn hls hlv s1 p1
                        go_upto_region 29 with fail
                        go_loopw [15] (fun q (wr : World) => ∃ lq : Nat, a < lq ∧ lq ≤ n ∧ q = .int .i64 lq ∧ HasP wr gs F ∧ DefS w2 z gO vO n (gdA a g k lq) (vdT a g v (k + 1)) wr) (fun q _ => n - (intOf q).toNat)
                        case atStart => exact ⟨a + 1, by omega, by omega, by go_num, hvs, hD9⟩
                        case round =>
                          obtain ⟨lq, hl1, hl2, rfl, hvl, hDl⟩ := hrel
                          clear hvs hD9
                          by_cases hln : lq < n
                          · obtain ⟨gl, kl, r1, r2, r3, hpe, hput⟩ := hDl.put hln hkn
                            obtain ⟨gl', kl', p1, _, _, p4⟩ := hDl.1.row hln
                            obtain ⟨B1, B2, B3, hds, hM⟩ := p4 a han
                            have e := r1.symm.trans p1
                            injection e with e; injection e with e1 e2 e3; injection e1 with e1; injection e1 with e1; subst e1
                            rw [gdA_at] at hpe
                            rw [gdA_i] at hds hM
                            obtain ⟨A1, A2, A3, hcs, hN⟩ := hpe
                            obtain ⟨S1, S2, S3, hsc, hsn⟩ := hvl.slot
                            have hls := hvl.1
                            obtain ⟨x, hx⟩ : ∃ x, x = g lq k := ⟨_, rfl⟩
                            obtain ⟨y, hy⟩ : ∃ y, y = g lq a := ⟨_, rfl⟩
                            rw [← hx] at hcs hN
                            rw [← hy] at hds hM
                            have zx : sz B x := by rw [hx]; exact HSG.out lq k hln hkn
                            have zy : sz B y := by rw [hy]; exact HSG.out lq a hln han
                            have zf := ZF.out
                            have zm := sz_mul2 zy zf
                            have ZZ := Lib.hid (And.intro (zx.mono (show _ ≤ 137438953472 by omega)) (And.intro (zy.mono (show _ ≤ 137438953472 by omega)) (And.intro (zf.mono (show _ ≤ 137438953472 by omega)) (zm.mono (show _ ≤ 137438953472 by omega)))))
                            have hnew : gdA a g k (lq + 1) lq k = x.sub (y.mul F) := by rw [gdA_new hl1 hk1', hx, hy, HFQ.out]
                            have HNEW := Lib.hid hnew
                            have i5 : (0 : Int) ≤ (lq : Int) := by omega
                            have i6 : (lq : Int) < (n : Int) := by omega
                            have hlO := hDl.1.lt
                            have hne : gs ≠ gl := by omega
                            clear hDl p4 hx hy zx zy zf zm hnew p1 e2 e3
                            go_upto_region 31 with fail
                            refine wp_region_any (by kernel_rfl) ?_
                            refine wpAny_inv (fun l a' w' => ∃ V4 : Nat → Value, ∃ xf20 xf21 : Value, a' = ⟨List.toArray (.slice A n c :: undef :: u2 :: u3 :: u4 :: u5 :: u6 :: u7 :: .slice (some ⟨gO, 0, none⟩) n n :: .slice (some ⟨vO, 0, none⟩) n n :: .int .i64 ↑a :: .slice none 0 0 :: .int .i64 ↑k :: .pointer (some ⟨gs, 0, none⟩) :: xd20 :: .int .i64 ↑lq :: .slice A n c :: .bool true :: .bool false :: .slice A n c :: .int .i64 ↑n :: .int .i64 ↑n :: .bool false :: u23 :: u24 :: u25 :: u26 :: u27 :: u28 :: u29 :: u30 :: u31 :: u32 :: u33 :: u34 :: u35 :: u36 :: u37 :: u38 :: u39 :: u40 :: u41 :: u42 :: u43 :: u44 :: u45 :: u46 :: .slice A n c :: .slice (some ⟨gO, 0, none⟩) n n :: .slice A n c :: .int .i64 ↑n :: .slice (some ⟨vO, 0, none⟩) n n :: .slice (some ⟨gO, 0, none⟩) n n :: .int .i64 ↑n :: .int .i64 ↑a :: .bool true :: .int .i64 ↑a :: .slice (some ⟨gO, 0, none⟩) n n :: .int .i64 ↑a :: .pointer (some ⟨gO, a, none⟩) :: .slice (some ⟨gro, 0, none⟩) n kro :: .int .i64 ↑a :: .pointer (some { block := gro, off := a * 5 }) :: .agg #[.bool (sn (na xo)), .slice P1 (ln (ab (na xo))) (ln (ab (na xo))), .bool (sn (nb xo)), .slice P2 (ln (ab (nb xo))) (ln (ab (nb xo))), .slice P3 (ln (un xo)) (ln (un xo))] :: .agg #[.bool false, .slice none 0 0, .bool false, .slice none 0 0, .slice none 0 0] :: .int .i64 (cmpC xo Cx.zero) :: .bool false :: u67 :: u68 :: u69 :: u70 :: .slice (some ⟨gO, 0, none⟩) n n :: .slice (some ⟨vO, 0, none⟩) n n :: .int .i64 ↑a :: .slice none 0 0 :: .slice none 0 0 :: .bool false :: u77 :: .slice (some ⟨gO, 0, none⟩) n n :: .int .i64 ↑a :: .pointer (some ⟨gO, a, none⟩) :: .slice (some ⟨gro, 0, none⟩) n kro :: .int .i64 ↑a :: .pointer (some { block := gro, off := a * 5 }) :: .agg #[.bool (sn (na xo)), .slice P1 (ln (ab (na xo))) (ln (ab (na xo))), .bool (sn (nb xo)), .slice P2 (ln (ab (nb xo))) (ln (ab (nb xo))), .slice P3 (ln (un xo)) (ln (un xo))] :: .bool true :: .bool false :: .int .i64 ↑a :: .int .i64 (↑a + 1) :: .int .i64 ↑k :: .slice (some ⟨gO, 0, none⟩) n n :: .int .i64 ↑n :: .bool true :: u93 :: u94 :: xd15 :: V2 0 :: V2 1 :: V2 2 :: V2 3 :: V2 4 :: V2 5 :: V2 6 :: V2 7 :: V2 8 :: V2 9 :: V2 10 :: V2 11 :: V2 12 :: V2 13 :: xd14 :: xd16 :: xd17 :: V3 0 :: V3 1 :: V3 2 :: V3 3 :: V3 4 :: V3 5 :: V3 6 :: xe7 :: V3 8 :: V3 9 :: V3 10 :: V3 11 :: xe12 :: V3 13 :: .int .i64 ↑a :: .int .i64 (↑a + 1) :: .int .i64 ↑lq :: .slice (some ⟨gO, 0, none⟩) n n :: .int .i64 ↑n :: .bool true :: u133 :: u134 :: V4 0 :: V4 1 :: V4 2 :: V4 3 :: V4 4 :: V4 5 :: V4 6 :: V4 7 :: V4 8 :: V4 9 :: V4 10 :: V4 11 :: V4 12 :: V4 13 :: V4 14 :: V4 15 :: V4 16 :: V4 17 :: V4 18 :: V4 19 :: xf20 :: xf21 :: V4 22 :: u158 :: []), []⟩ ∧ OnFix l V4 (fun zz => List.getD [.slice (some ⟨gO, 0, none⟩) n n, .int .i64 lq, .pointer (some ⟨gO, lq, none⟩), .slice (some ⟨gl, 0, none⟩) n kl, .int .i64 k, .slice (some ⟨gO, 0, none⟩) n n, .int .i64 lq, .pointer (some ⟨gO, lq, none⟩), .slice (some ⟨gl, 0, none⟩) n kl, .int .i64 k, .pointer (some ⟨gl, k * 5, none⟩), .agg #[.bool (sn (na x)), .slice A1 (ln (ab (na x))) (ln (ab (na x))), .bool (sn (nb x)), .slice A2 (ln (ab (nb x))) (ln (ab (nb x))), .slice A3 (ln (un x)) (ln (un x))], .slice (some ⟨gO, 0, none⟩) n n, .int .i64 lq, .pointer (some ⟨gO, lq, none⟩), .slice (some ⟨gl, 0, none⟩) n kl, .int .i64 a, .pointer (some ⟨gl, a * 5, none⟩), .agg #[.bool (sn (na y)), .slice B1 (ln (ab (na y))) (ln (ab (na y))), .bool (sn (nb y)), .slice B2 (ln (ab (nb y))) (ln (ab (nb y))), .slice B3 (ln (un y)) (ln (un y))], .agg #[.bool (sn (na F)), .slice S1 (ln (ab (na F))) (ln (ab (na F))), .bool (sn (nb F)), .slice S2 (ln (ab (nb F))) (ln (ab (nb F))), .slice S3 (ln (un F)) (ln (un F))], undef, undef, .pointer (some ⟨gl, k * 5, none⟩), undef] zz undef) [0, 1, 2, 3, 4, 5, 6, 7, 8, 9, 10, 11, 12, 13, 14, 15, 16, 17, 18, 19, 22] ∧ Off l 23 (Below wr.heap.size wr w' ∧ On l 20 (SlotNum w' xf20 (y.mul F)) ∧ On l 21 (SlotNum w' xf21 (x.sub (y.mul F)))) ∧ On l 23 (HasP w' gs F ∧ DefS w2 z gO vO n (gdA a g k (lq + 1)) (vdT a g v (k + 1)) w') ∧ Edg l [(23, 22), (22, 3), (23, 21), (21, 11), (11, 10), (10, 8), (21, 20), (20, 18), (18, 17), (17, 15), (20, 19)] ∧ l.size = 24) ?_ ?_ _ _ _ _ (by decide) ?_
                            · intro l a' W' i hi hI
                              obtain ⟨V4, xf20, xf21, rfl, hv, hZ, hM0, hE, hz⟩ := hI
                              obtain ⟨hlt, hoff, hpre⟩ := ready_pre hi
                              have hc : i ∈ [0, 1, 2, 3, 4, 5, 6, 7, 8, 9, 10, 11, 12, 13, 14, 15, 16, 17, 18, 19, 20, 21, 22, 23] := (by decide : ∀ i, i < 24 → i ∈ [0, 1, 2, 3, 4, 5, 6, 7, 8, 9, 10, 11, 12, 13, 14, 15, 16, 17, 18, 19, 20, 21, 22, 23]) i hlt
                              simp only [List.mem_cons, List.not_mem_nil, or_false] at hc
                              clear hi hlt
                              rcases hc with rfl | rfl | rfl | rfl | rfl | rfl | rfl | rfl | rfl | rfl | rfl | rfl | rfl | rfl | rfl | rfl | rfl | rfl | rfl | rfl | rfl | rfl | rfl | rfl <;> (have hp := hpre _ rfl; simp [Region.binds] at hp; clear hpre)
                              · skip
                                have HV := Lib.hid hv
                                clear hv
                                refine wpOp_go rfl rfl (fun K hK => ?_)
                                go_simp
                                refine hK _ _ ?_
                                exact ⟨_, _, _, rfl, HV.out.new (x := .slice (some ⟨gO, 0, none⟩) n n) rfl, hZ.keep.map (fun ⟨hb0, y20, y21⟩ => ⟨hb0, y20.keep (by decide), y21.keep (by decide)⟩), hM0.keep (by decide), hE.mono (by decide), by simp [hz]⟩
                              · skip
                                have HV := Lib.hid hv
                                clear hv
                                refine wpOp_go rfl rfl (fun K hK => ?_)
                                go_simp
                                refine hK _ _ ?_
                                exact ⟨_, _, _, rfl, HV.out.new (x := .int .i64 lq) rfl, hZ.keep.map (fun ⟨hb0, y20, y21⟩ => ⟨hb0, y20.keep (by decide), y21.keep (by decide)⟩), hM0.keep (by decide), hE.mono (by decide), by simp [hz]⟩
                              · skip
                                have e0 : V4 0 = .slice (some ⟨gO, 0, none⟩) n n := hv.get 0 (by decide) (by simp [hp])
                                have e1 : V4 1 = .int .i64 lq := hv.get 1 (by decide) (by simp [hp])
                                have HV := Lib.hid ((hv.fixE e0 rfl).fixE e1 rfl)
                                clear hv
                                simp only [e0, e1]
                                refine wpOp_go rfl rfl (fun K hK => ?_)
                                go_simp
                                refine hK _ _ ?_
                                exact ⟨_, _, _, rfl, HV.out.new (x := .pointer (some ⟨gO, lq, none⟩)) rfl, hZ.keep.map (fun ⟨hb0, y20, y21⟩ => ⟨hb0, y20.keep (by decide), y21.keep (by decide)⟩), hM0.keep (by decide), hE.mono (by decide), by simp [hz]⟩
                              · skip
                                have e2 : V4 2 = .pointer (some ⟨gO, lq, none⟩) := hv.get 2 (by decide) (by simp [hp])
                                have HV := Lib.hid (hv.fixE e2 rfl)
                                clear hv
                                simp only [e2]
                                have hY := hZ.get (fun h => off hoff (hE.get 22 3 (by decide) (hE.get 23 22 (by decide) h)))
                                have z := keepc hY.1 r1 hlO
                                refine wpOp_go rfl rfl (fun K hK => ?_)
                                go_simp
                                refine hK _ _ ?_
                                exact ⟨_, _, _, rfl, HV.out.new (x := .slice (some ⟨gl, 0, none⟩) n kl) rfl, hZ.keep.map (fun ⟨hb0, y20, y21⟩ => ⟨hb0, y20.keep (by decide), y21.keep (by decide)⟩), hM0.keep (by decide), hE.mono (by decide), by simp [hz]⟩
                              · skip
                                have HV := Lib.hid hv
                                clear hv
                                refine wpOp_go rfl rfl (fun K hK => ?_)
                                go_simp
                                refine hK _ _ ?_
                                exact ⟨_, _, _, rfl, HV.out.new (x := .int .i64 k) rfl, hZ.keep.map (fun ⟨hb0, y20, y21⟩ => ⟨hb0, y20.keep (by decide), y21.keep (by decide)⟩), hM0.keep (by decide), hE.mono (by decide), by simp [hz]⟩
                              · skip
                                have HV := Lib.hid hv
                                clear hv
                                refine wpOp_go rfl rfl (fun K hK => ?_)
                                go_simp
                                refine hK _ _ ?_
                                exact ⟨_, _, _, rfl, HV.out.new (x := .slice (some ⟨gO, 0, none⟩) n n) rfl, hZ.keep.map (fun ⟨hb0, y20, y21⟩ => ⟨hb0, y20.keep (by decide), y21.keep (by decide)⟩), hM0.keep (by decide), hE.mono (by decide), by simp [hz]⟩
                              · skip
                                have HV := Lib.hid hv
                                clear hv
                                refine wpOp_go rfl rfl (fun K hK => ?_)
                                go_simp
                                refine hK _ _ ?_
                                exact ⟨_, _, _, rfl, HV.out.new (x := .int .i64 lq) rfl, hZ.keep.map (fun ⟨hb0, y20, y21⟩ => ⟨hb0, y20.keep (by decide), y21.keep (by decide)⟩), hM0.keep (by decide), hE.mono (by decide), by simp [hz]⟩
                              · skip
                                have e5 : V4 5 = .slice (some ⟨gO, 0, none⟩) n n := hv.get 5 (by decide) (by simp [hp])
                                have e6 : V4 6 = .int .i64 lq := hv.get 6 (by decide) (by simp [hp])
                                have HV := Lib.hid ((hv.fixE e5 rfl).fixE e6 rfl)
                                clear hv
                                simp only [e5, e6]
                                refine wpOp_go rfl rfl (fun K hK => ?_)
                                go_simp
                                refine hK _ _ ?_
                                exact ⟨_, _, _, rfl, HV.out.new (x := .pointer (some ⟨gO, lq, none⟩)) rfl, hZ.keep.map (fun ⟨hb0, y20, y21⟩ => ⟨hb0, y20.keep (by decide), y21.keep (by decide)⟩), hM0.keep (by decide), hE.mono (by decide), by simp [hz]⟩
                              · skip
                                have e7 : V4 7 = .pointer (some ⟨gO, lq, none⟩) := hv.get 7 (by decide) (by simp [hp])
                                have HV := Lib.hid (hv.fixE e7 rfl)
                                clear hv
                                simp only [e7]
                                have hY := hZ.get (fun h => off hoff (hE.get 10 8 (by decide) (hE.get 11 10 (by decide) (hE.get 21 11 (by decide) (hE.get 23 21 (by decide) h)))))
                                have z := keepc hY.1 r1 hlO
                                refine wpOp_go rfl rfl (fun K hK => ?_)
                                go_simp
                                refine hK _ _ ?_
                                exact ⟨_, _, _, rfl, HV.out.new (x := .slice (some ⟨gl, 0, none⟩) n kl) rfl, hZ.keep.map (fun ⟨hb0, y20, y21⟩ => ⟨hb0, y20.keep (by decide), y21.keep (by decide)⟩), hM0.keep (by decide), hE.mono (by decide), by simp [hz]⟩
                              · skip
                                have HV := Lib.hid hv
                                clear hv
                                refine wpOp_go rfl rfl (fun K hK => ?_)
                                go_simp
                                refine hK _ _ ?_
                                exact ⟨_, _, _, rfl, HV.out.new (x := .int .i64 k) rfl, hZ.keep.map (fun ⟨hb0, y20, y21⟩ => ⟨hb0, y20.keep (by decide), y21.keep (by decide)⟩), hM0.keep (by decide), hE.mono (by decide), by simp [hz]⟩
                              · skip
                                have e8 : V4 8 = .slice (some ⟨gl, 0, none⟩) n kl := hv.get 8 (by decide) (by simp [hp])
                                have e9 : V4 9 = .int .i64 k := hv.get 9 (by decide) (by simp [hp])
                                have HV := Lib.hid ((hv.fixE e8 rfl).fixE e9 rfl)
                                clear hv
                                simp only [e8, e9]
                                refine wpOp_go rfl rfl (fun K hK => ?_)
                                go_simp
                                refine hK _ _ ?_
                                exact ⟨_, _, _, rfl, HV.out.new (x := .pointer (some ⟨gl, k * 5, none⟩)) rfl, hZ.keep.map (fun ⟨hb0, y20, y21⟩ => ⟨hb0, y20.keep (by decide), y21.keep (by decide)⟩), hM0.keep (by decide), hE.step (by simp [hp]), by simp [hz]⟩
                              · skip
                                have e10 : V4 10 = .pointer (some ⟨gl, k * 5, none⟩) := hv.get 10 (by decide) (by simp [hp])
                                have HV := Lib.hid (hv.fixE e10 rfl)
                                clear hv
                                simp only [e10]
                                have hY := hZ.get (fun h => off hoff (hE.get 21 11 (by decide) (hE.get 23 21 (by decide) h)))
                                obtain ⟨z0, z1, z2, z3, z4⟩ := hcs
                                have y0 := keepc hY.1 z0 r2; have y1 := keepc hY.1 z1 r2; have y2 := keepc hY.1 z2 r2; have y3 := keepc hY.1 z3 r2; have y4 := keepc hY.1 z4 r2
                                refine wpOp_go rfl rfl (fun K hK => ?_)
                                go_simp
                                refine hK _ _ ?_
                                exact ⟨_, _, _, rfl, HV.out.new (x := .agg #[.bool (sn (na x)), .slice A1 (ln (ab (na x))) (ln (ab (na x))), .bool (sn (nb x)), .slice A2 (ln (ab (nb x))) (ln (ab (nb x))), .slice A3 (ln (un x)) (ln (un x))]) rfl, hZ.keep.map (fun ⟨hb0, y20, y21⟩ => ⟨hb0, y20.keep (by decide), y21.keep (by decide)⟩), hM0.keep (by decide), hE.step (by simp [hp]), by simp [hz]⟩
                              · skip
                                have HV := Lib.hid hv
                                clear hv
                                refine wpOp_go rfl rfl (fun K hK => ?_)
                                go_simp
                                refine hK _ _ ?_
                                exact ⟨_, _, _, rfl, HV.out.new (x := .slice (some ⟨gO, 0, none⟩) n n) rfl, hZ.keep.map (fun ⟨hb0, y20, y21⟩ => ⟨hb0, y20.keep (by decide), y21.keep (by decide)⟩), hM0.keep (by decide), hE.mono (by decide), by simp [hz]⟩
                              · skip
                                have HV := Lib.hid hv
                                clear hv
                                refine wpOp_go rfl rfl (fun K hK => ?_)
                                go_simp
                                refine hK _ _ ?_
                                exact ⟨_, _, _, rfl, HV.out.new (x := .int .i64 lq) rfl, hZ.keep.map (fun ⟨hb0, y20, y21⟩ => ⟨hb0, y20.keep (by decide), y21.keep (by decide)⟩), hM0.keep (by decide), hE.mono (by decide), by simp [hz]⟩
                              · skip
                                have e12 : V4 12 = .slice (some ⟨gO, 0, none⟩) n n := hv.get 12 (by decide) (by simp [hp])
                                have e13 : V4 13 = .int .i64 lq := hv.get 13 (by decide) (by simp [hp])
                                have HV := Lib.hid ((hv.fixE e12 rfl).fixE e13 rfl)
                                clear hv
                                simp only [e12, e13]
                                refine wpOp_go rfl rfl (fun K hK => ?_)
                                go_simp
                                refine hK _ _ ?_
                                exact ⟨_, _, _, rfl, HV.out.new (x := .pointer (some ⟨gO, lq, none⟩)) rfl, hZ.keep.map (fun ⟨hb0, y20, y21⟩ => ⟨hb0, y20.keep (by decide), y21.keep (by decide)⟩), hM0.keep (by decide), hE.mono (by decide), by simp [hz]⟩
                              · skip
                                have e14 : V4 14 = .pointer (some ⟨gO, lq, none⟩) := hv.get 14 (by decide) (by simp [hp])
                                have HV := Lib.hid (hv.fixE e14 rfl)
                                clear hv
                                simp only [e14]
                                have hY := hZ.get (fun h => off hoff (hE.get 17 15 (by decide) (hE.get 18 17 (by decide) (hE.get 20 18 (by decide) (hE.get 21 20 (by decide) (hE.get 23 21 (by decide) h))))))
                                have z := keepc hY.1 r1 hlO
                                refine wpOp_go rfl rfl (fun K hK => ?_)
                                go_simp
                                refine hK _ _ ?_
                                exact ⟨_, _, _, rfl, HV.out.new (x := .slice (some ⟨gl, 0, none⟩) n kl) rfl, hZ.keep.map (fun ⟨hb0, y20, y21⟩ => ⟨hb0, y20.keep (by decide), y21.keep (by decide)⟩), hM0.keep (by decide), hE.mono (by decide), by simp [hz]⟩
                              · skip
                                have HV := Lib.hid hv
                                clear hv
                                refine wpOp_go rfl rfl (fun K hK => ?_)
                                go_simp
                                refine hK _ _ ?_
                                exact ⟨_, _, _, rfl, HV.out.new (x := .int .i64 a) rfl, hZ.keep.map (fun ⟨hb0, y20, y21⟩ => ⟨hb0, y20.keep (by decide), y21.keep (by decide)⟩), hM0.keep (by decide), hE.mono (by decide), by simp [hz]⟩
                              · skip
                                have e15 : V4 15 = .slice (some ⟨gl, 0, none⟩) n kl := hv.get 15 (by decide) (by simp [hp])
                                have e16 : V4 16 = .int .i64 a := hv.get 16 (by decide) (by simp [hp])
                                have HV := Lib.hid ((hv.fixE e15 rfl).fixE e16 rfl)
                                clear hv
                                simp only [e15, e16]
                                refine wpOp_go rfl rfl (fun K hK => ?_)
                                go_simp
                                refine hK _ _ ?_
                                exact ⟨_, _, _, rfl, HV.out.new (x := .pointer (some ⟨gl, a * 5, none⟩)) rfl, hZ.keep.map (fun ⟨hb0, y20, y21⟩ => ⟨hb0, y20.keep (by decide), y21.keep (by decide)⟩), hM0.keep (by decide), hE.step (by simp [hp]), by simp [hz]⟩
                              · skip
                                have e17 : V4 17 = .pointer (some ⟨gl, a * 5, none⟩) := hv.get 17 (by decide) (by simp [hp])
                                have HV := Lib.hid (hv.fixE e17 rfl)
                                clear hv
                                simp only [e17]
                                have hY := hZ.get (fun h => off hoff (hE.get 20 18 (by decide) (hE.get 21 20 (by decide) (hE.get 23 21 (by decide) h))))
                                obtain ⟨z0, z1, z2, z3, z4⟩ := hds
                                have y0 := keepc hY.1 z0 r2; have y1 := keepc hY.1 z1 r2; have y2 := keepc hY.1 z2 r2; have y3 := keepc hY.1 z3 r2; have y4 := keepc hY.1 z4 r2
                                refine wpOp_go rfl rfl (fun K hK => ?_)
                                go_simp
                                refine hK _ _ ?_
                                exact ⟨_, _, _, rfl, HV.out.new (x := .agg #[.bool (sn (na y)), .slice B1 (ln (ab (na y))) (ln (ab (na y))), .bool (sn (nb y)), .slice B2 (ln (ab (nb y))) (ln (ab (nb y))), .slice B3 (ln (un y)) (ln (un y))]) rfl, hZ.keep.map (fun ⟨hb0, y20, y21⟩ => ⟨hb0, y20.keep (by decide), y21.keep (by decide)⟩), hM0.keep (by decide), hE.step (by simp [hp]), by simp [hz]⟩
                              · skip
                                have HV := Lib.hid hv
                                clear hv
                                have hY := hZ.get (fun h => off hoff (hE.get 20 19 (by decide) (hE.get 21 20 (by decide) (hE.get 23 21 (by decide) h))))
                                obtain ⟨z0, z1, z2, z3, z4⟩ := hsc
                                have y0 := keepc hY.1 z0 hls; have y1 := keepc hY.1 z1 hls; have y2 := keepc hY.1 z2 hls; have y3 := keepc hY.1 z3 hls; have y4 := keepc hY.1 z4 hls
                                refine wpOp_go rfl rfl (fun K hK => ?_)
                                go_simp
                                refine hK _ _ ?_
                                exact ⟨_, _, _, rfl, HV.out.new (x := .agg #[.bool (sn (na F)), .slice S1 (ln (ab (na F))) (ln (ab (na F))), .bool (sn (nb F)), .slice S2 (ln (ab (nb F))) (ln (ab (nb F))), .slice S3 (ln (un F)) (ln (un F))]) rfl, hZ.keep.map (fun ⟨hb0, y20, y21⟩ => ⟨hb0, y20.keep (by decide), y21.keep (by decide)⟩), hM0.keep (by decide), hE.mono (by decide), by simp [hz]⟩
                              · skip
                                have e18 : V4 18 = .agg #[.bool (sn (na y)), .slice B1 (ln (ab (na y))) (ln (ab (na y))), .bool (sn (nb y)), .slice B2 (ln (ab (nb y))) (ln (ab (nb y))), .slice B3 (ln (un y)) (ln (un y))] := hv.get 18 (by decide) (by simp [hp])
                                have e19 : V4 19 = .agg #[.bool (sn (na F)), .slice S1 (ln (ab (na F))) (ln (ab (na F))), .bool (sn (nb F)), .slice S2 (ln (ab (nb F))) (ln (ab (nb F))), .slice S3 (ln (un F)) (ln (un F))] := hv.get 19 (by decide) (by simp [hp])
                                have HV := Lib.hid ((hv.fixE e18 rfl).fixE e19 rfl)
                                clear hv
                                simp only [e18, e19]
                                have hY := hZ.get (fun h => off hoff (hE.get 21 20 (by decide) (hE.get 23 21 (by decide) h)))
                                refine wpOp_go rfl rfl (fun K hK => ?_)
                                go_wp2_with (first | (go_at_call 10; refine (mul_num y F B1 B2 B3 S1 S2 S3 _ (hM.to hY.1) (hsn.to hY.1) ZZ.out.2.1 ZZ.out.2.2.1).mono ?_; rintro e wf ⟨E1, E2, E3, rfl, hNN, hb⟩))
                                try refine hK _ _ ?_
                                exact ⟨_, _, _, rfl, HV.out.other (by decide), Off.new ⟨hY.1.trans (hb.mono hY.1.size), On.new (⟨E1, E2, E3, rfl, hNN⟩), ((hY.2.2).keep (by decide)).map (fun h => h.to hb)⟩, fun h => absurd (hE.get 21 20 (by decide) (hE.get 23 21 (by decide) (on_ne h (by decide)))) (off hoff), hE.step (by simp [hp]), by simp [hz]⟩
                              · skip
                                have e11 : V4 11 = .agg #[.bool (sn (na x)), .slice A1 (ln (ab (na x))) (ln (ab (na x))), .bool (sn (nb x)), .slice A2 (ln (ab (nb x))) (ln (ab (nb x))), .slice A3 (ln (un x)) (ln (un x))] := hv.get 11 (by decide) (by simp [hp])
                                have HV := Lib.hid (hv.fixE e11 rfl)
                                clear hv
                                simp only [e11]
                                have hY := hZ.get (fun h => off hoff (hE.get 23 21 (by decide) h))
                                obtain ⟨G1, G2, G3, eG, hMM⟩ := hY.2.1.get (by simp [hp])
                                subst eG
                                refine wpOp_go rfl rfl (fun K hK => ?_)
                                go_wp2_with (first | (go_at_call 47; refine (sub_num x (y.mul F) A1 A2 A3 G1 G2 G3 _ (hN.to hY.1) hMM ZZ.out.1 ZZ.out.2.2.2).mono ?_; rintro e wf ⟨E1, E2, E3, rfl, hNN, hb⟩))
                                try refine hK _ _ ?_
                                exact ⟨_, _, _, rfl, HV.out.other (by decide), Off.new ⟨hY.1.trans (hb.mono hY.1.size), ((hY.2.1).keep (by decide)).map (fun h => h.to hb), On.new (⟨E1, E2, E3, rfl, hNN⟩)⟩, fun h => absurd (hE.get 23 21 (by decide) (on_ne h (by decide))) (off hoff), hE.step (by simp [hp]), by simp [hz]⟩
                              · skip
                                have e3 : V4 3 = .slice (some ⟨gl, 0, none⟩) n kl := hv.get 3 (by decide) (by simp [hp])
                                have e4 : V4 4 = .int .i64 k := hv.get 4 (by decide) (by simp [hp])
                                have HV := Lib.hid ((hv.fixE e3 rfl).fixE e4 rfl)
                                clear hv
                                simp only [e3, e4]
                                refine wpOp_go rfl rfl (fun K hK => ?_)
                                go_simp
                                refine hK _ _ ?_
                                exact ⟨_, _, _, rfl, HV.out.new (x := .pointer (some ⟨gl, k * 5, none⟩)) rfl, hZ.keep.map (fun ⟨hb0, y20, y21⟩ => ⟨hb0, y20.keep (by decide), y21.keep (by decide)⟩), hM0.keep (by decide), hE.step (by simp [hp]), by simp [hz]⟩
                              · skip
                                have e22 : V4 22 = .pointer (some ⟨gl, k * 5, none⟩) := hv.get 22 (by decide) (by simp [hp])
                                have HV := Lib.hid (hv.fixE e22 rfl)
                                clear hv
                                simp only [e22]
                                have hY := hZ.get (off hoff)
                                obtain ⟨E1, E2, E3, eE, hNN⟩ := hY.2.2.get (by simp [hp])
                                subst eE
                                have hvk := hvl.to hY.1
                                obtain ⟨⟨u0, u1, u2, u3, u4, d0, d1, d2, d3, d4⟩, ⟨f0, f1, f2, f3, f4⟩, ⟨cb, hcb⟩, hfin⟩ := hput W' hY.1
                                refine wpOp_go rfl rfl (fun K hK => ?_)
                                go_simp
                                refine hK _ _ ?_
                                obtain ⟨XX, hX⟩ : ∃ XX : World, XX = set5o W' gl (k * 5) (x.sub (y.mul F)) E1 E2 E3 := ⟨_, rfl⟩
                                have hw : set5o W' gl (k * 5) (x.sub (y.mul F)) E1 E2 E3 = XX := hX.symm
                                unfold set5o at hw
                                rw [hw]
                                subst hX
                                exact ⟨_, _, _, rfl, HV.out.other (by decide), Off.done (by omega), On.new (⟨hvk.set5o hne hcb, hfin (gdA a g k (lq + 1)) _ E1 E2 E3 hNN HNEW.out (fun a b _ _ h => gdA_old h)⟩), hE.step (by simp [hp]), by simp [hz]⟩
                            · intro l a' W' hr hI
                              obtain ⟨V4, xf20, xf21, rfl, hv, hZ, hM0, hE, hz⟩ := hI
                              have a0 := not_ready (i := 0) hr hz rfl (by simp [Region.binds])
                              have a1 := not_ready (i := 1) hr hz rfl (by simp [Region.binds, a0])
                              have a2 := not_ready (i := 2) hr hz rfl (by simp [Region.binds, a0, a1])
                              have a3 := not_ready (i := 3) hr hz rfl (by simp [Region.binds, a0, a1, a2])
                              have a4 := not_ready (i := 4) hr hz rfl (by simp [Region.binds, a0, a1, a2, a3])
                              have a5 := not_ready (i := 5) hr hz rfl (by simp [Region.binds, a0, a1, a2, a3, a4])
                              have a6 := not_ready (i := 6) hr hz rfl (by simp [Region.binds, a0, a1, a2, a3, a4, a5])
                              have a7 := not_ready (i := 7) hr hz rfl (by simp [Region.binds, a0, a1, a2, a3, a4, a5, a6])
                              have a8 := not_ready (i := 8) hr hz rfl (by simp [Region.binds, a0, a1, a2, a3, a4, a5, a6, a7])
                              have a9 := not_ready (i := 9) hr hz rfl (by simp [Region.binds, a0, a1, a2, a3, a4, a5, a6, a7, a8])
                              have a10 := not_ready (i := 10) hr hz rfl (by simp [Region.binds, a0, a1, a2, a3, a4, a5, a6, a7, a8, a9])
                              have a11 := not_ready (i := 11) hr hz rfl (by simp [Region.binds, a0, a1, a2, a3, a4, a5, a6, a7, a8, a9, a10])
                              have a12 := not_ready (i := 12) hr hz rfl (by simp [Region.binds, a0, a1, a2, a3, a4, a5, a6, a7, a8, a9, a10, a11])
                              have a13 := not_ready (i := 13) hr hz rfl (by simp [Region.binds, a0, a1, a2, a3, a4, a5, a6, a7, a8, a9, a10, a11, a12])
                              have a14 := not_ready (i := 14) hr hz rfl (by simp [Region.binds, a0, a1, a2, a3, a4, a5, a6, a7, a8, a9, a10, a11, a12, a13])
                              have a15 := not_ready (i := 15) hr hz rfl (by simp [Region.binds, a0, a1, a2, a3, a4, a5, a6, a7, a8, a9, a10, a11, a12, a13, a14])
                              have a16 := not_ready (i := 16) hr hz rfl (by simp [Region.binds, a0, a1, a2, a3, a4, a5, a6, a7, a8, a9, a10, a11, a12, a13, a14, a15])
                              have a17 := not_ready (i := 17) hr hz rfl (by simp [Region.binds, a0, a1, a2, a3, a4, a5, a6, a7, a8, a9, a10, a11, a12, a13, a14, a15, a16])
                              have a18 := not_ready (i := 18) hr hz rfl (by simp [Region.binds, a0, a1, a2, a3, a4, a5, a6, a7, a8, a9, a10, a11, a12, a13, a14, a15, a16, a17])
                              have a19 := not_ready (i := 19) hr hz rfl (by simp [Region.binds, a0, a1, a2, a3, a4, a5, a6, a7, a8, a9, a10, a11, a12, a13, a14, a15, a16, a17, a18])
                              have a20 := not_ready (i := 20) hr hz rfl (by simp [Region.binds, a0, a1, a2, a3, a4, a5, a6, a7, a8, a9, a10, a11, a12, a13, a14, a15, a16, a17, a18, a19])
                              have a21 := not_ready (i := 21) hr hz rfl (by simp [Region.binds, a0, a1, a2, a3, a4, a5, a6, a7, a8, a9, a10, a11, a12, a13, a14, a15, a16, a17, a18, a19, a20])
                              have a22 := not_ready (i := 22) hr hz rfl (by simp [Region.binds, a0, a1, a2, a3, a4, a5, a6, a7, a8, a9, a10, a11, a12, a13, a14, a15, a16, a17, a18, a19, a20, a21])
                              have a23 := not_ready (i := 23) hr hz rfl (by simp [Region.binds, a0, a1, a2, a3, a4, a5, a6, a7, a8, a9, a10, a11, a12, a13, a14, a15, a16, a17, a18, a19, a20, a21, a22])
                              have hY := hM0.get a23
                              clear hr hz hv hZ a0 a1 a2 a3 a4 a5 a6 a7 a8 a9 a10 a11 a12 a13 a14 a15 a16 a17 a18 a19 a20 a21 a22 a23 hM0 hE
                              go_wp2_with fail
                              go_roundw
                              case rel => exact ⟨lq + 1, by omega, by omega, by go_num, hY.1, hY.2⟩
                              case measure => simp [intOf]; omega
                            · exact ⟨fun zz => List.getD [u135, u136, u137, u138, u139, u140, u141, u142, u143, u144, u145, u146, u147, u148, u149, u150, u151, u152, u153, u154, u155, u156, u157, undef] zz undef, _, _, rfl, OnFix.start, Off.new ⟨((Below.refl _ _).drew), fun h => absurd h (by decide), fun h => absurd h (by decide)⟩, fun h => absurd h (by decide), Edg.start, by simp⟩
                          · obtain rfl : lq = n := by omega
                            have HDN := Lib.hid (hDl.cong gdA_end (fun _ _ _ _ => rfl))
                            clear hDl hvl
                            go_wp2_with fail
                            go_roundw
                            case rel => exact ⟨k + 1, by omega, by omega, by go_num, HDN.out⟩
                            case measure => simp [intOf]; omega
                      · exact ⟨fun zz => List.getD [u113, u114, u115, u116, u117, u118, u119, u120, u121, u122, u123, u124, u125, u126, undef] zz undef, _, _, rfl, OnFix.start, Off.new ⟨((Below.refl _ _).drew), fun h => absurd h (by decide), fun h => absurd h (by decide)⟩, fun h => absurd h (by decide), Edg.start, by simp⟩
                    · exact ⟨fun zz => List.getD [u96, u97, u98, u99, u100, u101, u102, u103, u104, u105, u106, u107, u108, u109, u110, u95, u111, u112, u13, undef, u14] zz undef, _, _, _, _, _, _, rfl, OnFix.start, Off.new ⟨((Below.refl _ _).drew), fun h => absurd h (by decide), fun h => absurd h (by decide), fun h => absurd h (by decide), fun h => absurd h (by decide)⟩, fun h => absurd h (by decide), fun h => absurd h (by decide), Edg.start, by simp⟩
                  · obtain rfl : k = n := by omega
                    have HDN := Lib.hid (hD.cong gdT_end vdT_end)
                    clear hD
                    go_wp2_with fail
                    go_roundw
                    case rel =>
                      have hbe := HBE.out
                      have eb : 6 * B + 4 = bd K0 (a + 1) := by rw [hbe]; rfl
                      exact ⟨a + 1, gdn a g, vdn a g v, by omega, by go_num, HDN.out, HQ3, Lib.hid (fun i j hi hj => by rw [← eb]; exact sz_gdn hk1 han HXZ.out HSG.out i j hi hj), Lib.hid (fun i j hi hj => by rw [← eb]; exact sz_vdn hk1 han HXZ.out HSG.out HSV.out i j hi hj)⟩
                    case measure => simp [intOf]; omega
            · obtain ⟨gu, cu, rfl, hnu⟩ := hL.form (by omega)
              have HQ3 : Hid (some (crV g v a (crK n g a)) = Q) := Lib.hid (by
                have := HQ2.out
                rw [if_pos (HX.out.trans hz), if_pos hck] at this
                exact this)
              have HNU := Lib.hid hnu
              have hbw := HDD.out.1.below
              have HBF := Lib.hid ((HB.out.trans (hbw.mono HB.out.size)).trans (hL.1.mono (HB.out.trans (hbw.mono HB.out.size)).size))
              have HGK := Lib.hid (And.intro hz hck)
              clear hz hck hL hnu hbw y0 y1 y2 y3 y4 r1 r2 hN HDD hlO HCR HQ2
              go_wp2_with fail
              refine bodyPost_ret (v := .tuple #[.bool false, .slice (some ⟨gu, 0, none⟩) n cu, .int .i64 0]) (by simp [results, Try.results23, go_sem]) rfl ?_
              refine .inr (.inr ⟨HHE.out, _, gu, cu, by rw [← HQ.out]; exact HQ3.out.symm, rfl, HNU.out, fun j hj => ?_, HBF.out⟩)
              obtain ⟨p1, p2, p3, p4⟩ := piv_spec (fun a b => g b a) a (n - (a + 1)) (a + 1)
              have hne : g a (crK n g a) ≠ Cx.zero := p4 (by have := HGK.out.2; show crK n g a < _; omega)
              exact (sz_crV hk1 han HGK.out.2 hne HSG.out HSV.out j hj).mono (by have := HMO.out a ha2; have := HBE.out; omega)
        · obtain rfl : a = n := by omega
          have HQ3 : Hid (none = Q) := Lib.hid (by rw [← HDF.out, Nat.sub_self]; rfl)
          have hbw := hD.1.below
          have HBF := Lib.hid (HB.out.trans (hbw.mono HB.out.size))
          clear hbw hD
          go_wp2_with fail
          refine bodyPost_ret (v := .tuple #[.bool true, .slice none 0 0, .int .i64 0]) (by simp [results, Try.results23, go_sem]) rfl ?_
          exact .inr (.inl ⟨HHE.out, by rw [← HQ.out]; exact HQ3.out.symm, rfl, HBF.out⟩)
end Go.Proofs.Ytdpjknjlhchmcaa

namespace Go.Proofs.Ytdpjknjlhchmcaa
open Go.RowKit Pl
set_option linter.unusedVariables false
set_option linter.unusedSimpArgs false
theorem sz_sqm {w : World} {A : Option Addr} {k : Nat} {X Y Z : Nat → Int} (hT : Triples w A k X Y Z) (n i j : Nat) : sz 2 (sqm k n X Y Z i j) := by
  unfold sqm
  split
  · exact sz_int0.mono (by decide)
  · obtain ⟨_, _, _, _, _, _, _, rx, ry, rz⟩ := hT ((i * n + j) % k) (Nat.mod_lt _ (by omega))
    exact sz_of rx ry rz
theorem valid_const (n m : Nat) (h : n ≤ 32) (h2 : m ≤ 32) : Valid n (fun _ => m) := .inr ⟨h, h2, fun _ _ => rfl⟩
theorem col_same (n : Nat) : colN n (fun _ => n) = n := by
  unfold colN
  by_cases h : n = 0
  · rw [if_pos h, h]
  · rw [if_neg h]
end Go.Proofs.Ytdpjknjlhchmcaa

namespace Go.Proofs.Ytdpjknjlhchmcaa
open Go.RowKit Pl
set_option linter.unusedVariables false
set_option linter.unusedSimpArgs false
theorem sz_dots {f g : Nat → Nat → Cx} {i k A B : Nat} : ∀ j, (∀ l, l < j → sz A (f i l) ∧ sz B (g l k)) → sz (j * (A + B + 2) + 1) (dotC f g i k j) := by
  intro j
  induction j with
  | zero => intro _; exact sz_int0.mono (by omega)
  | succ j ih => intro h; exact (sz_add2 (ih fun l hl => h l (by omega)) (sz_mul2 (h j (by omega)).1 (h j (by omega)).2)).mono (by rw [Nat.succ_mul]; omega)
theorem sz_dot4 {f g : Nat → Nat → Cx} {i k A B j : Nat} (hj : j ≤ 4) (h : ∀ l, l < j → sz A (f i l) ∧ sz B (g l k)) : sz (4 * A + 4 * B + 9) (dotC f g i k j) := by
  refine (sz_dots j h).mono ?_
  have h4 : j * (A + B + 2) ≤ 4 * (A + B + 2) := Nat.mul_le_mul_right _ hj
  omega
/-- A slot holds a matrix. -/
def SlotM (w : World) (u : Value) (n : Nat) (f : Nat → Nat → Cx) : Prop := ∃ A c, u = .slice A n c ∧ MatP w A n (fun _ => n) f
theorem SlotM.to {w w' : World} {u : Value} {n : Nat} {f : Nat → Nat → Cx} (h : SlotM w u n f) (hb : Below w.heap.size w w') : SlotM w' u n f := by
  obtain ⟨A, c, e, m⟩ := h; exact ⟨A, c, e, m.to hb⟩
/-- A product of two square matrices. -/
theorem product_sq (w : World) (A B : Option Addr) (n c c2 K L : Nat) (f g : Nat → Nat → Cx) (hA : MatP w A n (fun _ => n) f) (hB : MatP w B n (fun _ => n) g) (hn : n ≤ 4) (hK : 4 * K + 4 * L + 9 ≤ 137438953472) (hf : ∀ i k, i < n → k < n → sz K (f i k)) (hg : ∀ i k, i < n → k < n → sz L (g i k)) :
    Calls Try.prog 7 #[.slice A n c, .slice B n c2] w (RetMatE w n (fun _ => n) fun i k => dotC f g i k n) := by
  have h := product_big w A B n c n c2 (fun _ => n) (fun _ => n) f g hA hB (by omega) (fun _ _ => by omega) (by omega) (fun _ _ => by omega) (valid_const n n (by omega) (by omega)) (valid_const n n (by omega) (by omega)) (col_same n)
    (fun i k j hi hk hj => by
      rw [col_same] at hk
      exact ⟨(hf i j hi hj).mono (by omega), (hg j k hj hk).mono (by omega), (sz_dot4 (j := j) (by omega) fun l hl => ⟨hf i l hi (by omega), hg l k (by omega) hk⟩).mono hK, (sz_mul2 (hf i j hi hj) (hg j k hj hk)).mono (by omega)⟩)
  rw [col_same] at h
  exact h
theorem adjoint_sq (w : World) (A : Option Addr) (n c : Nat) (f : Nat → Nat → Cx) (hA : MatP w A n (fun _ => n) f) (hn : n ≤ 4) :
    Calls Try.prog 8 #[.slice A n c] w (RetMatE w n (fun _ => n) (adj f)) := by
  have h := adjoint_ok w A n c (fun _ => n) f hA (by omega) (fun _ _ => by omega) (valid_const n n (by omega) (by omega))
  rw [col_same] at h
  exact h
theorem sz_adj {K n : Nat} {f : Nat → Nat → Cx} (h : ∀ i k, i < n → k < n → sz K (f i k)) : ∀ i k, i < n → k < n → sz K (adj f i k) := fun i k hi hk => sz_conj (h k i hk hi)
set_option maxRecDepth 100000 in
set_option maxHeartbeats 4000000 in
theorem gram_any (w : World) (A : Option Addr) (n c : Nat) (f : Nat → Nat → Cx) (hM : MatP w A n (fun _ => n) f) (hn : n ≤ 4) (hS : ∀ i k, i < n → k < n → sz 2 (f i k)) :
    Calls Try.prog 21 #[.slice A n c] w (RetMatP w n (fun _ => n) (gram n f)) := by
  have HA := Lib.hid (adjoint_sq w A n c f hM hn)
  have HP := Lib.hid (fun (W : World) (B : Option Addr) (c2 : Nat) (hb : Below w.heap.size w W) (h : MatP W B n (fun _ => n) (adj f)) => product_sq W B A n c2 c 2 2 (adj f) f h (hM.to hb) hn (by decide) (sz_adj hS) hS)
  clear hM hS
  go_enter Try.func21, Try.ntmps21
  go_wp2_with fail
  refine HA.out.mono ?_
  rintro e w1 ⟨B, cB, rfl, hB, hb⟩
  have HB := Lib.hid hb
  have HC := Lib.hid (HP.out w1 B cB hb hB)
  clear HA HP hB hb
  go_wp2_with fail
  refine HC.out.mono ?_
  rintro e w2 ⟨D, cD, rfl, hD, hb⟩
  have HB2 := Lib.hid (HB.out.trans (hb.mono HB.out.size))
  have HD := Lib.hid hD
  clear HB HC hb hD
  go_wp2_with fail
  exact bodyPost_ret (v := .slice D n cD) (by simp [results, Try.results21, go_sem]) rfl ⟨D, cD, rfl, HD.out, HB2.out⟩
/-- A row of a matrix that is being made. -/
theorem MkP.rowAt {w0 w : World} {gO n m r : Nat} {D : Nat → Nat → Prop} {f : Nat → Nat → Cx} (h : MkP w0 gO n m r D f w) {i : Nat} (hi : i < n) (hr : i < r) : ∃ g, w.cell? ⟨gO, i, none⟩ = some (.slice (some ⟨g, 0, none⟩) m m) ∧ g < w.heap.size ∧ gO < w.heap.size := by
  obtain ⟨_, h2, _, ⟨G, h4, _, _⟩, _⟩ := h
  obtain ⟨a1, _, _, a4, _⟩ := h4 i hi hr
  exact ⟨G i, a1, a4, h2⟩
/-- A matrix's row: where it lies, whatever the slice's start. -/
theorem matp_any {w : World} {A : Option Addr} {n m : Nat} {f : Nat → Nat → Cx} (h : MatP w A n (fun _ => m) f) {i : Nat} (hi : i < n) (hm : 0 < m) :
    ∃ b fo g c, A = some ⟨b, fo, none⟩ ∧ b < w.heap.size ∧ w.cell? ⟨b, fo + i, none⟩ = some (.slice (some ⟨g, 0, none⟩) m c) ∧ g < w.heap.size ∧ ∀ j, j < m → PE w g (j * 5) (f i j) := by
  obtain ⟨R, K, h1, h2⟩ := h
  obtain ⟨b, fo, e, hl, hc⟩ := h1 i hi
  obtain ⟨g, eg, hp⟩ := h2 i hi 0 hm
  refine ⟨b, fo, g, K i, e, hl, by rw [hc, eg], hp.lt, fun j hj => ?_⟩
  obtain ⟨g', eg', hp'⟩ := h2 i hi j hj
  rw [eg] at eg'
  injection eg' with eg'; injection eg' with eg'
  rw [eg']; exact hp'
theorem herm_add {n : Nat} {f g : Nat → Nat → Cx} (hf : Herm n f) (hg : Herm n g) : Herm n (fun i k => (f i k).add (g i k)) := by
  intro a b ha hb
  show (f a b).add (g a b) = ((f b a).add (g b a)).conj
  rw [hf a b ha hb, hg a b ha hb]
  refine Cx.ext' ?_ ?_ <;> simp only [Cx.add, Cx.conj] <;> grind
end Go.Proofs.Ytdpjknjlhchmcaa

namespace Go.Proofs.Ytdpjknjlhchmcaa
open Go.RowKit Pl
set_option linter.unusedVariables false
set_option linter.unusedSimpArgs false
/-- A matrix that 'Definite' accepts. -/
def Good (w : World) (n : Nat) (u : Value) : Prop := ∃ A c M, u = .slice A n c ∧ MatP w A n (fun _ => n) M ∧ Herm n M ∧ Psd n M ∧ ∀ i k, i < n → k < n → sz 7000 (M i k)
theorem Good.to {w w' : World} {n : Nat} {u : Value} (h : Good w n u) (hb : Below w.heap.size w w') : Good w' n u := by
  obtain ⟨A, c, M, e, m, r⟩ := h; exact ⟨A, c, M, e, m.to hb, r⟩
theorem bd7 {n : Nat} (h : n ≤ 4) : 100 * bd 7000 n + 100 ≤ 137438953472 := by
  have := bd_mono 7000 n 4 h
  have e : bd 7000 4 ≤ 10000000 := by decide
  omega
/-- 'Definite' accepts it. -/
theorem good_def (w : World) (n : Nat) (A : Option Addr) (c : Nat) (h : Good w n (.slice A n c)) (hn : n ≤ 4) :
    Calls Try.prog 23 #[.slice A n c] w fun e w' => e = .returned (.tuple #[.bool true, .slice none 0 0, .int .i64 0]) ∧ Below w.heap.size w w' := by
  obtain ⟨A', c', M, e, m, hh, hp, hs⟩ := h
  injection e with e1 _ e2
  subst e1 e2
  refine (definite_any w A n c 7000 (fun _ => n) M m (by omega) (fun _ _ => rfl) (by decide) (bd7 hn) hs).mono ?_
  rintro e w' (⟨h1, _⟩ | ⟨_, _, h2, h3⟩ | ⟨_, q, g, c, h1, _⟩)
  · exact absurd hh h1
  · exact ⟨h2, h3⟩
  · rw [def_none hh hp] at h1; cases h1
set_option maxRecDepth 100000 in
set_option maxHeartbeats 40000000 in
theorem gram_walk (w : World) (A B C : Option Addr) (ka ca kb cb kc cc p0 : Nat) (X Y Z X2 Y2 Z2 X3 Y3 Z3 : Nat → Int) (hT : Triples w A ka X Y Z) (hU : Triples w B kb X2 Y2 Z2) (hV : Triples w C kc X3 Y3 Z3) (hk : ka ≤ maxLen) (hl : kb ≤ maxLen) (hm : kc ≤ maxLen) (h0 : p0 < 256) :
    Calls Try.prog 5 #[.agg #[.slice A ka ca, .slice B kb cb, .slice C kc cc], .int .u8 p0] w fun e w' => e = .returned (.bool true) ∧ Below w.heap.size w w' := by
  obtain ⟨n, hnn⟩ : ∃ n, n = p0 % 5 := ⟨_, rfl⟩
  have hn4 : n ≤ 4 := by omega
  have q0 : (p0 : Int).tmod 5 = (n : Int) := by rw [hnn]; rfl
  obtain ⟨sa, hsa⟩ : ∃ f, f = sqm ka n X Y Z := ⟨_, rfl⟩
  obtain ⟨sb, hsb⟩ : ∃ f, f = sqm kb n X2 Y2 Z2 := ⟨_, rfl⟩
  obtain ⟨sc, hsc⟩ : ∃ f, f = sqm kc n X3 Y3 Z3 := ⟨_, rfl⟩
  have HZA := Lib.hid (show ∀ i j, i < n → j < n → sz 2 (sa i j) from fun i j _ _ => by rw [hsa]; exact sz_sqm hT n i j)
  have HZB := Lib.hid (show ∀ i j, i < n → j < n → sz 2 (sb i j) from fun i j _ _ => by rw [hsb]; exact sz_sqm hU n i j)
  have HZC := Lib.hid (show ∀ i j, i < n → j < n → sz 2 (sc i j) from fun i j _ _ => by rw [hsc]; exact sz_sqm hV n i j)
  have HSA := Lib.hid (fun (W : World) (hb : Below w.heap.size w W) => sq_law W A ka ca n X Y Z (hT.to hb) (by omega) hk)
  have HSB := Lib.hid (fun (W : World) (hb : Below w.heap.size w W) => sq_law W B kb cb n X2 Y2 Z2 (hU.to hb) (by omega) hl)
  have HSC := Lib.hid (fun (W : World) (hb : Below w.heap.size w W) => sq_law W C kc cc n X3 Y3 Z3 (hV.to hb) (by omega) hm)
  rw [← hsa] at HSA
  rw [← hsb] at HSB
  rw [← hsc] at HSC
  have HGA := Lib.hid (fun (W : World) (D : Option Addr) (c : Nat) (h : MatP W D n (fun _ => n) sa) => gram_any W D n c sa h hn4 HZA.out)
  have HGB := Lib.hid (fun (W : World) (D : Option Addr) (c : Nat) (h : MatP W D n (fun _ => n) sb) => gram_any W D n c sb h hn4 HZB.out)
  clear hnn hsa hsb hsc hT hU hV hk hl hm
  go_enter Try.func5, Try.ntmps5
  go_upto_region 3 with fail
  clear q0 h0
  obtain ⟨g2, hg2⟩ : ∃ g, g = w.heap.size := ⟨_, rfl⟩
  obtain ⟨W0, hW0⟩ : ∃ W : World, W = w.alloc (.cells #[.slice A ka ca, .slice B kb cb, .slice C kc cc] 51) := ⟨_, rfl⟩
  have hb0 : Below w.heap.size w W0 := by rw [hW0]; exact (Below.refl _ _).alloc (Nat.le_refl _) _
  have b0 : W0.cell? ⟨g2, 0, none⟩ = some (.slice A ka ca) := by rw [hW0, hg2]; go_simp
  have b1 : W0.cell? ⟨g2, 1, none⟩ = some (.slice B kb cb) := by rw [hW0, hg2]; go_simp
  have b2 : W0.cell? ⟨g2, 2, none⟩ = some (.slice C kc cc) := by rw [hW0, hg2]; go_simp
  have l2 : g2 < W0.heap.size := World.block_lt_of_cell? W0 ⟨g2, _, none⟩ b0
  rw [← hg2, ← hW0]
  have HB0 := Lib.hid hb0
  clear hb0 hW0 hg2
  refine wp_region_any (by kernel_rfl) ?_
  refine wpAny_inv (fun l a' w' => ∃ V : Nat → Value, ∃ xc4 xc5 xc10 xc11 xc15 xc16 xc17 xc18 : Value, a' = ⟨List.toArray (.agg #[.slice A ka ca, .slice B kb cb, .slice C kc cc] :: .int .u8 ↑p0 :: .pointer (some ⟨g2, 0, none⟩) :: undef :: .bool false :: .int .i64 ↑n :: .func (Fn.func 21) #[] #[] :: xc16 :: xc17 :: xc18 :: undef :: undef :: undef :: undef :: undef :: undef :: undef :: undef :: undef :: undef :: undef :: undef :: undef :: undef :: .int .u8 ↑p0 :: .int .i64 ↑p0 :: .int .i64 ↑n :: V 0 :: V 1 :: V 2 :: V 3 :: xc4 :: xc5 :: V 6 :: V 7 :: V 8 :: V 9 :: xc10 :: xc11 :: V 12 :: V 13 :: V 14 :: xc15 :: undef :: undef :: undef :: undef :: undef :: undef :: undef :: undef :: undef :: undef :: undef :: undef :: undef :: undef :: undef :: undef :: undef :: undef :: undef :: undef :: undef :: undef :: undef :: undef :: undef :: undef :: undef :: undef :: undef :: undef :: undef :: undef :: undef :: undef :: undef :: undef :: undef :: undef :: undef :: undef :: undef :: undef :: undef :: undef :: undef :: undef :: undef :: undef :: undef :: undef :: undef :: undef :: undef :: undef :: undef :: undef :: undef :: undef :: undef :: undef :: undef :: undef :: undef :: undef :: undef :: undef :: undef :: undef :: undef :: undef :: undef :: undef :: undef :: undef :: undef :: undef :: undef :: undef :: undef :: undef :: undef :: undef :: undef :: undef :: undef :: undef :: undef :: undef :: undef :: undef :: undef :: undef :: undef :: undef :: undef :: undef :: undef :: undef :: undef :: undef :: undef :: undef :: undef :: undef :: undef :: undef :: undef :: undef :: undef :: undef :: undef :: undef :: undef :: undef :: undef :: undef :: undef :: undef :: undef :: undef :: []), []⟩ ∧ OnFix l V (fun zz => List.getD [.func (.func 21) #[] #[], .pointer (some ⟨g2, 0, none⟩), .slice A ka ca, .int .i64 n, undef, undef, .func (.func 21) #[] #[], .pointer (some ⟨g2, 1, none⟩), .slice B kb cb, .int .i64 n, undef, undef, .pointer (some ⟨g2, 2, none⟩), .slice C kc cc, .int .i64 n, undef, undef, undef, undef] zz undef) [0, 1, 2, 3, 6, 7, 8, 9, 12, 13, 14] ∧ (Below W0.heap.size W0 w' ∧ On l 4 (SlotM w' xc4 n sa) ∧ On l 5 (SlotM w' xc5 n (gram n sa)) ∧ On l 10 (SlotM w' xc10 n sb) ∧ On l 11 (SlotM w' xc11 n (gram n sb)) ∧ On l 15 (SlotM w' xc15 n sc) ∧ On l 16 (SlotM w' xc16 n (gram n sa)) ∧ On l 17 (SlotM w' xc17 n (gram n sb)) ∧ On l 18 (SlotM w' xc18 n sc)) ∧ l.size = 19) ?_ ?_ _ _ _ _ (by decide) ?_
  · intro l a' W' i hi hI
    obtain ⟨V, xc4, xc5, xc10, xc11, xc15, xc16, xc17, xc18, rfl, hv, hZ, hz⟩ := hI
    obtain ⟨hlt, hoff, hpre⟩ := ready_pre hi
    have hc : i ∈ [0, 1, 2, 3, 4, 5, 6, 7, 8, 9, 10, 11, 12, 13, 14, 15, 16, 17, 18] := (by decide : ∀ i, i < 19 → i ∈ [0, 1, 2, 3, 4, 5, 6, 7, 8, 9, 10, 11, 12, 13, 14, 15, 16, 17, 18]) i hlt
    simp only [List.mem_cons, List.not_mem_nil, or_false] at hc
    clear hi hlt
    rcases hc with rfl | rfl | rfl | rfl | rfl | rfl | rfl | rfl | rfl | rfl | rfl | rfl | rfl | rfl | rfl | rfl | rfl | rfl | rfl <;> (have hp := hpre _ rfl; simp [Region.binds] at hp; clear hpre)
    · skip
      have HV := Lib.hid hv
      clear hv
      refine wpOp_go rfl rfl (fun K hK => ?_)
      go_simp
      refine hK _ _ ?_
      exact ⟨_, _, _, _, _, _, _, _, _, rfl, HV.out.new (x := .func (.func 21) #[] #[]) rfl, (fun ⟨hb0, y4, y5, y10, y11, y15, y16, y17, y18⟩ => ⟨hb0, y4.keep (by decide), y5.keep (by decide), y10.keep (by decide), y11.keep (by decide), y15.keep (by decide), y16.keep (by decide), y17.keep (by decide), y18.keep (by decide)⟩) hZ, by simp [hz]⟩
    · skip
      have HV := Lib.hid hv
      clear hv
      refine wpOp_go rfl rfl (fun K hK => ?_)
      go_simp
      refine hK _ _ ?_
      exact ⟨_, _, _, _, _, _, _, _, _, rfl, HV.out.new (x := .pointer (some ⟨g2, 0, none⟩)) rfl, (fun ⟨hb0, y4, y5, y10, y11, y15, y16, y17, y18⟩ => ⟨hb0, y4.keep (by decide), y5.keep (by decide), y10.keep (by decide), y11.keep (by decide), y15.keep (by decide), y16.keep (by decide), y17.keep (by decide), y18.keep (by decide)⟩) hZ, by simp [hz]⟩
    · skip
      have e1 : V 1 = .pointer (some ⟨g2, 0, none⟩) := hv.get 1 (by decide) (by simp [hp])
      have HV := Lib.hid (hv.fixE e1 rfl)
      clear hv
      simp only [e1]
      have hY := hZ
      have z := keepc hY.1 b0 l2
      refine wpOp_go rfl rfl (fun K hK => ?_)
      go_simp
      refine hK _ _ ?_
      exact ⟨_, _, _, _, _, _, _, _, _, rfl, HV.out.new (x := .slice A ka ca) rfl, (fun ⟨hb0, y4, y5, y10, y11, y15, y16, y17, y18⟩ => ⟨hb0, y4.keep (by decide), y5.keep (by decide), y10.keep (by decide), y11.keep (by decide), y15.keep (by decide), y16.keep (by decide), y17.keep (by decide), y18.keep (by decide)⟩) hZ, by simp [hz]⟩
    · skip
      have HV := Lib.hid hv
      clear hv
      refine wpOp_go rfl rfl (fun K hK => ?_)
      go_simp
      refine hK _ _ ?_
      exact ⟨_, _, _, _, _, _, _, _, _, rfl, HV.out.new (x := .int .i64 n) rfl, (fun ⟨hb0, y4, y5, y10, y11, y15, y16, y17, y18⟩ => ⟨hb0, y4.keep (by decide), y5.keep (by decide), y10.keep (by decide), y11.keep (by decide), y15.keep (by decide), y16.keep (by decide), y17.keep (by decide), y18.keep (by decide)⟩) hZ, by simp [hz]⟩
    · skip
      have e2 : V 2 = .slice A ka ca := hv.get 2 (by decide) (by simp [hp])
      have e3 : V 3 = .int .i64 n := hv.get 3 (by decide) (by simp [hp])
      have HV := Lib.hid ((hv.fixE e2 rfl).fixE e3 rfl)
      clear hv
      simp only [e2, e3]
      have hY := hZ
      refine wpOp_go rfl rfl (fun K hK => ?_)
      go_wp2_with (first | (go_at_call 6; refine (HSA.out _ (HB0.out.trans (hY.1.mono HB0.out.size))).mono ?_; rintro e wf ⟨gO, rfl, hW⟩; have hb := hW.below))
      try refine hK _ _ ?_
      exact ⟨_, _, _, _, _, _, _, _, _, rfl, HV.out.other (by decide), ⟨hY.1.trans (hb.mono hY.1.size), On.new (⟨_, _, rfl, hW.mat⟩), ((hY.2.2.1).keep (by decide)).map (fun h => h.to hb), ((hY.2.2.2.1).keep (by decide)).map (fun h => h.to hb), ((hY.2.2.2.2.1).keep (by decide)).map (fun h => h.to hb), ((hY.2.2.2.2.2.1).keep (by decide)).map (fun h => h.to hb), ((hY.2.2.2.2.2.2.1).keep (by decide)).map (fun h => h.to hb), ((hY.2.2.2.2.2.2.2.1).keep (by decide)).map (fun h => h.to hb), ((hY.2.2.2.2.2.2.2.2).keep (by decide)).map (fun h => h.to hb)⟩, by simp [hz]⟩
    · skip
      have e0 : V 0 = .func (.func 21) #[] #[] := hv.get 0 (by decide) (by simp [hp])
      have HV := Lib.hid (hv.fixE e0 rfl)
      clear hv
      simp only [e0]
      have hY := hZ
      obtain ⟨DA, dc, e0, hmd⟩ := hY.2.1.get (by simp [hp])
      subst e0
      refine wpOp_go rfl rfl (fun K hK => ?_)
      go_wp2_with (first | (go_at_call 21; refine (HGA.out _ DA dc hmd).mono ?_; rintro e wf ⟨EA, ec, rfl, hme, hb⟩))
      try refine hK _ _ ?_
      exact ⟨_, _, _, _, _, _, _, _, _, rfl, HV.out.other (by decide), ⟨hY.1.trans (hb.mono hY.1.size), ((hY.2.1).keep (by decide)).map (fun h => h.to hb), On.new (⟨_, _, rfl, hme⟩), ((hY.2.2.2.1).keep (by decide)).map (fun h => h.to hb), ((hY.2.2.2.2.1).keep (by decide)).map (fun h => h.to hb), ((hY.2.2.2.2.2.1).keep (by decide)).map (fun h => h.to hb), ((hY.2.2.2.2.2.2.1).keep (by decide)).map (fun h => h.to hb), ((hY.2.2.2.2.2.2.2.1).keep (by decide)).map (fun h => h.to hb), ((hY.2.2.2.2.2.2.2.2).keep (by decide)).map (fun h => h.to hb)⟩, by simp [hz]⟩
    · skip
      have HV := Lib.hid hv
      clear hv
      refine wpOp_go rfl rfl (fun K hK => ?_)
      go_simp
      refine hK _ _ ?_
      exact ⟨_, _, _, _, _, _, _, _, _, rfl, HV.out.new (x := .func (.func 21) #[] #[]) rfl, (fun ⟨hb0, y4, y5, y10, y11, y15, y16, y17, y18⟩ => ⟨hb0, y4.keep (by decide), y5.keep (by decide), y10.keep (by decide), y11.keep (by decide), y15.keep (by decide), y16.keep (by decide), y17.keep (by decide), y18.keep (by decide)⟩) hZ, by simp [hz]⟩
    · skip
      have HV := Lib.hid hv
      clear hv
      refine wpOp_go rfl rfl (fun K hK => ?_)
      go_simp
      refine hK _ _ ?_
      exact ⟨_, _, _, _, _, _, _, _, _, rfl, HV.out.new (x := .pointer (some ⟨g2, 1, none⟩)) rfl, (fun ⟨hb0, y4, y5, y10, y11, y15, y16, y17, y18⟩ => ⟨hb0, y4.keep (by decide), y5.keep (by decide), y10.keep (by decide), y11.keep (by decide), y15.keep (by decide), y16.keep (by decide), y17.keep (by decide), y18.keep (by decide)⟩) hZ, by simp [hz]⟩
    · skip
      have e7 : V 7 = .pointer (some ⟨g2, 1, none⟩) := hv.get 7 (by decide) (by simp [hp])
      have HV := Lib.hid (hv.fixE e7 rfl)
      clear hv
      simp only [e7]
      have hY := hZ
      have z := keepc hY.1 b1 l2
      refine wpOp_go rfl rfl (fun K hK => ?_)
      go_simp
      refine hK _ _ ?_
      exact ⟨_, _, _, _, _, _, _, _, _, rfl, HV.out.new (x := .slice B kb cb) rfl, (fun ⟨hb0, y4, y5, y10, y11, y15, y16, y17, y18⟩ => ⟨hb0, y4.keep (by decide), y5.keep (by decide), y10.keep (by decide), y11.keep (by decide), y15.keep (by decide), y16.keep (by decide), y17.keep (by decide), y18.keep (by decide)⟩) hZ, by simp [hz]⟩
    · skip
      have HV := Lib.hid hv
      clear hv
      refine wpOp_go rfl rfl (fun K hK => ?_)
      go_simp
      refine hK _ _ ?_
      exact ⟨_, _, _, _, _, _, _, _, _, rfl, HV.out.new (x := .int .i64 n) rfl, (fun ⟨hb0, y4, y5, y10, y11, y15, y16, y17, y18⟩ => ⟨hb0, y4.keep (by decide), y5.keep (by decide), y10.keep (by decide), y11.keep (by decide), y15.keep (by decide), y16.keep (by decide), y17.keep (by decide), y18.keep (by decide)⟩) hZ, by simp [hz]⟩
    · skip
      have e8 : V 8 = .slice B kb cb := hv.get 8 (by decide) (by simp [hp])
      have e9 : V 9 = .int .i64 n := hv.get 9 (by decide) (by simp [hp])
      have HV := Lib.hid ((hv.fixE e8 rfl).fixE e9 rfl)
      clear hv
      simp only [e8, e9]
      have hY := hZ
      refine wpOp_go rfl rfl (fun K hK => ?_)
      go_wp2_with (first | (go_at_call 6; refine (HSB.out _ (HB0.out.trans (hY.1.mono HB0.out.size))).mono ?_; rintro e wf ⟨gO, rfl, hW⟩; have hb := hW.below))
      try refine hK _ _ ?_
      exact ⟨_, _, _, _, _, _, _, _, _, rfl, HV.out.other (by decide), ⟨hY.1.trans (hb.mono hY.1.size), ((hY.2.1).keep (by decide)).map (fun h => h.to hb), ((hY.2.2.1).keep (by decide)).map (fun h => h.to hb), On.new (⟨_, _, rfl, hW.mat⟩), ((hY.2.2.2.2.1).keep (by decide)).map (fun h => h.to hb), ((hY.2.2.2.2.2.1).keep (by decide)).map (fun h => h.to hb), ((hY.2.2.2.2.2.2.1).keep (by decide)).map (fun h => h.to hb), ((hY.2.2.2.2.2.2.2.1).keep (by decide)).map (fun h => h.to hb), ((hY.2.2.2.2.2.2.2.2).keep (by decide)).map (fun h => h.to hb)⟩, by simp [hz]⟩
    · skip
      have e6 : V 6 = .func (.func 21) #[] #[] := hv.get 6 (by decide) (by simp [hp])
      have HV := Lib.hid (hv.fixE e6 rfl)
      clear hv
      simp only [e6]
      have hY := hZ
      obtain ⟨DA, dc, e0, hmd⟩ := hY.2.2.2.1.get (by simp [hp])
      subst e0
      refine wpOp_go rfl rfl (fun K hK => ?_)
      go_wp2_with (first | (go_at_call 21; refine (HGB.out _ DA dc hmd).mono ?_; rintro e wf ⟨EA, ec, rfl, hme, hb⟩))
      try refine hK _ _ ?_
      exact ⟨_, _, _, _, _, _, _, _, _, rfl, HV.out.other (by decide), ⟨hY.1.trans (hb.mono hY.1.size), ((hY.2.1).keep (by decide)).map (fun h => h.to hb), ((hY.2.2.1).keep (by decide)).map (fun h => h.to hb), ((hY.2.2.2.1).keep (by decide)).map (fun h => h.to hb), On.new (⟨_, _, rfl, hme⟩), ((hY.2.2.2.2.2.1).keep (by decide)).map (fun h => h.to hb), ((hY.2.2.2.2.2.2.1).keep (by decide)).map (fun h => h.to hb), ((hY.2.2.2.2.2.2.2.1).keep (by decide)).map (fun h => h.to hb), ((hY.2.2.2.2.2.2.2.2).keep (by decide)).map (fun h => h.to hb)⟩, by simp [hz]⟩
    · skip
      have HV := Lib.hid hv
      clear hv
      refine wpOp_go rfl rfl (fun K hK => ?_)
      go_simp
      refine hK _ _ ?_
      exact ⟨_, _, _, _, _, _, _, _, _, rfl, HV.out.new (x := .pointer (some ⟨g2, 2, none⟩)) rfl, (fun ⟨hb0, y4, y5, y10, y11, y15, y16, y17, y18⟩ => ⟨hb0, y4.keep (by decide), y5.keep (by decide), y10.keep (by decide), y11.keep (by decide), y15.keep (by decide), y16.keep (by decide), y17.keep (by decide), y18.keep (by decide)⟩) hZ, by simp [hz]⟩
    · skip
      have e12 : V 12 = .pointer (some ⟨g2, 2, none⟩) := hv.get 12 (by decide) (by simp [hp])
      have HV := Lib.hid (hv.fixE e12 rfl)
      clear hv
      simp only [e12]
      have hY := hZ
      have z := keepc hY.1 b2 l2
      refine wpOp_go rfl rfl (fun K hK => ?_)
      go_simp
      refine hK _ _ ?_
      exact ⟨_, _, _, _, _, _, _, _, _, rfl, HV.out.new (x := .slice C kc cc) rfl, (fun ⟨hb0, y4, y5, y10, y11, y15, y16, y17, y18⟩ => ⟨hb0, y4.keep (by decide), y5.keep (by decide), y10.keep (by decide), y11.keep (by decide), y15.keep (by decide), y16.keep (by decide), y17.keep (by decide), y18.keep (by decide)⟩) hZ, by simp [hz]⟩
    · skip
      have HV := Lib.hid hv
      clear hv
      refine wpOp_go rfl rfl (fun K hK => ?_)
      go_simp
      refine hK _ _ ?_
      exact ⟨_, _, _, _, _, _, _, _, _, rfl, HV.out.new (x := .int .i64 n) rfl, (fun ⟨hb0, y4, y5, y10, y11, y15, y16, y17, y18⟩ => ⟨hb0, y4.keep (by decide), y5.keep (by decide), y10.keep (by decide), y11.keep (by decide), y15.keep (by decide), y16.keep (by decide), y17.keep (by decide), y18.keep (by decide)⟩) hZ, by simp [hz]⟩
    · skip
      have e13 : V 13 = .slice C kc cc := hv.get 13 (by decide) (by simp [hp])
      have e14 : V 14 = .int .i64 n := hv.get 14 (by decide) (by simp [hp])
      have HV := Lib.hid ((hv.fixE e13 rfl).fixE e14 rfl)
      clear hv
      simp only [e13, e14]
      have hY := hZ
      refine wpOp_go rfl rfl (fun K hK => ?_)
      go_wp2_with (first | (go_at_call 6; refine (HSC.out _ (HB0.out.trans (hY.1.mono HB0.out.size))).mono ?_; rintro e wf ⟨gO, rfl, hW⟩; have hb := hW.below))
      try refine hK _ _ ?_
      exact ⟨_, _, _, _, _, _, _, _, _, rfl, HV.out.other (by decide), ⟨hY.1.trans (hb.mono hY.1.size), ((hY.2.1).keep (by decide)).map (fun h => h.to hb), ((hY.2.2.1).keep (by decide)).map (fun h => h.to hb), ((hY.2.2.2.1).keep (by decide)).map (fun h => h.to hb), ((hY.2.2.2.2.1).keep (by decide)).map (fun h => h.to hb), On.new (⟨_, _, rfl, hW.mat⟩), ((hY.2.2.2.2.2.2.1).keep (by decide)).map (fun h => h.to hb), ((hY.2.2.2.2.2.2.2.1).keep (by decide)).map (fun h => h.to hb), ((hY.2.2.2.2.2.2.2.2).keep (by decide)).map (fun h => h.to hb)⟩, by simp [hz]⟩
    · skip
      have HV := Lib.hid hv
      clear hv
      have hY := hZ
      obtain ⟨DA, dc, e0, hmd⟩ := hY.2.2.1.get (by simp [hp])
      subst e0
      refine wpOp_go rfl rfl (fun K hK => ?_)
      go_simp
      refine hK _ _ ?_
      exact ⟨_, _, _, _, _, _, _, _, _, rfl, HV.out.other (by decide), ⟨hY.1, ((hY.2.1).keep (by decide)).map (fun h => h), ((hY.2.2.1).keep (by decide)).map (fun h => h), ((hY.2.2.2.1).keep (by decide)).map (fun h => h), ((hY.2.2.2.2.1).keep (by decide)).map (fun h => h), ((hY.2.2.2.2.2.1).keep (by decide)).map (fun h => h), On.new (⟨_, _, rfl, hmd⟩), ((hY.2.2.2.2.2.2.2.1).keep (by decide)).map (fun h => h), ((hY.2.2.2.2.2.2.2.2).keep (by decide)).map (fun h => h)⟩, by simp [hz]⟩
    · skip
      have HV := Lib.hid hv
      clear hv
      have hY := hZ
      obtain ⟨DA, dc, e0, hmd⟩ := hY.2.2.2.2.1.get (by simp [hp])
      subst e0
      refine wpOp_go rfl rfl (fun K hK => ?_)
      go_simp
      refine hK _ _ ?_
      exact ⟨_, _, _, _, _, _, _, _, _, rfl, HV.out.other (by decide), ⟨hY.1, ((hY.2.1).keep (by decide)).map (fun h => h), ((hY.2.2.1).keep (by decide)).map (fun h => h), ((hY.2.2.2.1).keep (by decide)).map (fun h => h), ((hY.2.2.2.2.1).keep (by decide)).map (fun h => h), ((hY.2.2.2.2.2.1).keep (by decide)).map (fun h => h), ((hY.2.2.2.2.2.2.1).keep (by decide)).map (fun h => h), On.new (⟨_, _, rfl, hmd⟩), ((hY.2.2.2.2.2.2.2.2).keep (by decide)).map (fun h => h)⟩, by simp [hz]⟩
    · skip
      have HV := Lib.hid hv
      clear hv
      have hY := hZ
      obtain ⟨DA, dc, e0, hmd⟩ := hY.2.2.2.2.2.1.get (by simp [hp])
      subst e0
      refine wpOp_go rfl rfl (fun K hK => ?_)
      go_simp
      refine hK _ _ ?_
      exact ⟨_, _, _, _, _, _, _, _, _, rfl, HV.out.other (by decide), ⟨hY.1, ((hY.2.1).keep (by decide)).map (fun h => h), ((hY.2.2.1).keep (by decide)).map (fun h => h), ((hY.2.2.2.1).keep (by decide)).map (fun h => h), ((hY.2.2.2.2.1).keep (by decide)).map (fun h => h), ((hY.2.2.2.2.2.1).keep (by decide)).map (fun h => h), ((hY.2.2.2.2.2.2.1).keep (by decide)).map (fun h => h), ((hY.2.2.2.2.2.2.2.1).keep (by decide)).map (fun h => h), On.new (⟨_, _, rfl, hmd⟩)⟩, by simp [hz]⟩
  · intro l a' W' hr hI
    obtain ⟨V, xc4, xc5, xc10, xc11, xc15, xc16, xc17, xc18, rfl, hv, hZ, hz⟩ := hI
    have a0 := not_ready (i := 0) hr hz rfl (by simp [Region.binds])
    have a1 := not_ready (i := 1) hr hz rfl (by simp [Region.binds, a0])
    have a2 := not_ready (i := 2) hr hz rfl (by simp [Region.binds, a0, a1])
    have a3 := not_ready (i := 3) hr hz rfl (by simp [Region.binds, a0, a1, a2])
    have a4 := not_ready (i := 4) hr hz rfl (by simp [Region.binds, a0, a1, a2, a3])
    have a5 := not_ready (i := 5) hr hz rfl (by simp [Region.binds, a0, a1, a2, a3, a4])
    have a6 := not_ready (i := 6) hr hz rfl (by simp [Region.binds, a0, a1, a2, a3, a4, a5])
    have a7 := not_ready (i := 7) hr hz rfl (by simp [Region.binds, a0, a1, a2, a3, a4, a5, a6])
    have a8 := not_ready (i := 8) hr hz rfl (by simp [Region.binds, a0, a1, a2, a3, a4, a5, a6, a7])
    have a9 := not_ready (i := 9) hr hz rfl (by simp [Region.binds, a0, a1, a2, a3, a4, a5, a6, a7, a8])
    have a10 := not_ready (i := 10) hr hz rfl (by simp [Region.binds, a0, a1, a2, a3, a4, a5, a6, a7, a8, a9])
    have a11 := not_ready (i := 11) hr hz rfl (by simp [Region.binds, a0, a1, a2, a3, a4, a5, a6, a7, a8, a9, a10])
    have a12 := not_ready (i := 12) hr hz rfl (by simp [Region.binds, a0, a1, a2, a3, a4, a5, a6, a7, a8, a9, a10, a11])
    have a13 := not_ready (i := 13) hr hz rfl (by simp [Region.binds, a0, a1, a2, a3, a4, a5, a6, a7, a8, a9, a10, a11, a12])
    have a14 := not_ready (i := 14) hr hz rfl (by simp [Region.binds, a0, a1, a2, a3, a4, a5, a6, a7, a8, a9, a10, a11, a12, a13])
    have a15 := not_ready (i := 15) hr hz rfl (by simp [Region.binds, a0, a1, a2, a3, a4, a5, a6, a7, a8, a9, a10, a11, a12, a13, a14])
    have a16 := not_ready (i := 16) hr hz rfl (by simp [Region.binds, a0, a1, a2, a3, a4, a5, a6, a7, a8, a9, a10, a11, a12, a13, a14, a15])
    have a17 := not_ready (i := 17) hr hz rfl (by simp [Region.binds, a0, a1, a2, a3, a4, a5, a6, a7, a8, a9, a10, a11, a12, a13, a14, a15, a16])
    have a18 := not_ready (i := 18) hr hz rfl (by simp [Region.binds, a0, a1, a2, a3, a4, a5, a6, a7, a8, a9, a10, a11, a12, a13, a14, a15, a16, a17])
    have hY : Below W0.heap.size W0 W' ∧ (SlotM W' xc4 n sa) ∧ (SlotM W' xc5 n (gram n sa)) ∧ (SlotM W' xc10 n sb) ∧ (SlotM W' xc11 n (gram n sb)) ∧ (SlotM W' xc15 n sc) ∧ (SlotM W' xc16 n (gram n sa)) ∧ (SlotM W' xc17 n (gram n sb)) ∧ (SlotM W' xc18 n sc) := ⟨hZ.1, hZ.2.1.get a4, hZ.2.2.1.get a5, hZ.2.2.2.1.get a10, hZ.2.2.2.2.1.get a11, hZ.2.2.2.2.2.1.get a15, hZ.2.2.2.2.2.2.1.get a16, hZ.2.2.2.2.2.2.2.1.get a17, hZ.2.2.2.2.2.2.2.2.get a18⟩
    clear hr hz hv hZ a0 a1 a2 a3 a4 a5 a6 a7 a8 a9 a10 a11 a12 a13 a14 a15 a16 a17 a18 
    obtain ⟨w1, hw1⟩ : ∃ X : World, X = W' := ⟨_, rfl⟩
    rw [← hw1] at hY ⊢
    obtain ⟨hb, _, _, _, _, _, ⟨AX, cX, rfl, hX⟩, ⟨AY, cY, rfl, hY2⟩, ⟨AZ, cZ, rfl, hZ⟩⟩ := hY
    have HB1 := Lib.hid (HB0.out.trans (hb.mono HB0.out.size))
    have HX := Lib.hid hX
    have HYY := Lib.hid hY2
    have HZ := Lib.hid hZ
    have t0 : ((n : Int) != (n : Int)) = false := by rw [bne_eq_false_iff_eq]
    have hmk := mk_nums2 n (by omega)
    clear hb hX hY2 hZ hw1 b0 b1 b2 l2 HSA HSB HSC HGA HGB HB0
    obtain ⟨fx, hfx⟩ : ∃ f, f = gram n sa := ⟨_, rfl⟩
    obtain ⟨fy, hfy⟩ : ∃ f, f = gram n sb := ⟨_, rfl⟩
    rw [← hfx] at HX
    rw [← hfy] at HYY
    have zfx : ∀ i k, i < n → k < n → sz 30 (fx i k) := fun i k hi hk => by
      rw [hfx]
      exact (sz_dot4 (A := 2) (B := 2) hn4 fun l hl => ⟨sz_adj HZA.out i l hi hl, HZA.out l k hl hk⟩).mono (by decide)
    have zfy : ∀ i k, i < n → k < n → sz 30 (fy i k) := fun i k hi hk => by
      rw [hfy]
      exact (sz_dot4 (A := 2) (B := 2) hn4 fun l hl => ⟨sz_adj HZB.out i l hi hl, HZB.out l k hl hk⟩).mono (by decide)
    have HFX := Lib.hid (And.intro zfx (And.intro (show Herm n fx by rw [hfx]; exact herm_gram) (show Psd n fx by rw [hfx]; exact psd_gram)))
    have HFY := Lib.hid (And.intro zfy (And.intro (show Herm n fy by rw [hfy]; exact herm_gram) (show Psd n fy by rw [hfy]; exact psd_gram)))
    obtain ⟨sm, hsm⟩ : ∃ f : Nat → Nat → Cx, f = fun i k => (fx i k).add (fy i k) := ⟨_, rfl⟩
    have HSM := Lib.hid hsm
    have HFS := Lib.hid (And.intro (show ∀ i k, i < n → k < n → sz 61 (sm i k) by rw [hsm]; exact fun i k hi hk => (sz_add2 (zfx i k hi hk) (zfy i k hi hk)).mono (by decide)) (And.intro (show Herm n sm by rw [hsm]; exact herm_add HFX.out.2.1 HFY.out.2.1) (show Psd n sm from psd_add HFX.out.2.2 HFY.out.2.2 (fun a b _ _ => by rw [hsm]))))
    clear hfx hfy zfx zfy hsm HZA HZB
    go_upto_region 7 with fail
    clear hmk
    have hB0 : MkP w1 w1.heap.size n n 0 (fun a b => a < 0) sm (mkS w1 n 42) := MkP.new
    generalize mkS w1 n 42 = W1 at *
    obtain ⟨gS, hgS⟩ : ∃ g, g = w1.heap.size := ⟨_, rfl⟩
    rw [← hgS] at hB0 ⊢
    clear hgS
    go_upto_region 8 with fail
    go_loopw [57] (fun i (wr : World) => ∃ k : Nat, k ≤ n ∧ i = .int .i64 k ∧ MkP w1 gS n n k (fun a b => a < k) sm wr) (fun i _ => n - (intOf i).toNat)
    case atStart => exact ⟨0, Nat.zero_le _, rfl, hB0⟩
    case round =>
      obtain ⟨k, hk, rfl, hM⟩ := hrel
      clear hB0
      by_cases hkn : k < n
      · have hmk := mk_nums n (by omega)
        have hal := mkN_below wr n 34
        have hrow := mkN_row wr n 34
        have hsz := mkN_size wr n 34
        obtain ⟨v0, b1, b2⟩ := (hM.to hal).at hkn
        have HRR := Lib.hid (hM.rowR (f := sm) hkn hal (Nat.le_refl _) (by omega) hrow (fun j hj hd => absurd hd (Nat.lt_irrefl k)))
        have i1 : (0 : Int) ≤ (k : Int) := by omega
        have i2 : (k : Int) < (n : Int) := by omega
        clear hM hal hrow hsz
        go_upto_region 11 with fail
        clear hmk b1 b2
        obtain ⟨w3, hw3⟩ : ∃ W : World, W = (mkN wr n 34).setCell ⟨gS, k, none⟩ (.slice (some ⟨wr.heap.size, 0, none⟩) n n) := ⟨_, rfl⟩
        rw [← hw3] at HRR ⊢
        obtain ⟨gn, hgn⟩ : ∃ g, g = wr.heap.size := ⟨_, rfl⟩
        rw [← hgn]
        clear hw3 hgn
        have hM3 := HRR.out
        obtain ⟨bX, fX, gxo, kxo, rfl, hlX, r1, _, _⟩ := matp_any (HX.out.to hM3.below) hkn (by omega)
        obtain ⟨bY, fY, gyo, kyo, rfl, hlY, p1, _, _⟩ := matp_any (HYY.out.to hM3.below) hkn (by omega)
        obtain ⟨gr, s1, _, lS⟩ := hM3.rowAt hkn (Nat.lt_succ_self k)
        clear hM3
        go_upto_region 14 with fail
        clear r1 hlX p1 hlY s1 lS
        have hM3 := HRR.out.cong (D' := fun a b => a < k ∨ (a = k ∧ b < 0)) (f' := sm) (fun a b _ _ hd => ⟨by rcases hd with h | h <;> omega, rfl⟩)
        clear HRR
        go_loopw [86] (fun i (wr : World) => ∃ j : Nat, j ≤ n ∧ i = .int .i64 j ∧ MkP w1 gS n n (k + 1) (fun a b => a < k ∨ (a = k ∧ b < j)) sm wr) (fun i _ => n - (intOf i).toNat)
        case atStart => exact ⟨0, Nat.zero_le _, rfl, hM3⟩
        case round =>
          obtain ⟨j, hj, rfl, hM⟩ := hrel
          clear hM3
          by_cases hjn : j < n
          · obtain ⟨bX', fX', gx, kx, eX, hlX, r1, lx, px⟩ := matp_any (HX.out.to hM.below) hkn (by omega)
            injection eX with eX; injection eX with e1 e2; subst e1 e2
            obtain ⟨bY', fY', gy, ky, eY, hlY, p1, ly, py⟩ := matp_any (HYY.out.to hM.below) hkn (by omega)
            injection eY with eY; injection eY with e1 e2; subst e1 e2
            obtain ⟨gq, s1, lS, _, _, hput⟩ := hM.put hkn (Nat.lt_succ_self k) hjn
            obtain ⟨A1, A2, A3, hcs, hN⟩ := px j hjn
            obtain ⟨B1, B2, B3, hds, hMM⟩ := py j hjn
            obtain ⟨x, hx⟩ : ∃ x, x = fx k j := ⟨_, rfl⟩
            obtain ⟨y, hy⟩ : ∃ y, y = fy k j := ⟨_, rfl⟩
            rw [← hx] at hcs hN
            rw [← hy] at hds hMM
            have ZZ := Lib.hid (And.intro ((show sz 30 x by rw [hx]; exact HFX.out.1 k j hkn hjn).mono (show 30 ≤ 137438953472 by decide)) ((show sz 30 y by rw [hy]; exact HFY.out.1 k j hkn hjn).mono (show 30 ≤ 137438953472 by decide)))
            have HNEW := Lib.hid (show sm k j = x.add y by rw [HSM.out, hx, hy])
            have i3 : (0 : Int) ≤ (j : Int) := by omega
            have i4 : (j : Int) < (n : Int) := by omega
            clear hM px py hx hy
            go_upto_region 16 with fail
            refine wp_region_any (by kernel_rfl) ?_
            refine wpAny_inv (fun l a' w' => ∃ V2 : Nat → Value, ∃ xd19 : Value, a' = ⟨List.toArray (.agg #[.slice A ka ca, .slice B kb cb, .slice C kc cc] :: .int .u8 ↑p0 :: .pointer (some ⟨g2, 0, none⟩) :: undef :: u4 :: .int .i64 ↑n :: .func (Fn.func 21) #[] #[] :: .slice (some ⟨bX, fX, none⟩) n cX :: .slice (some ⟨bY, fY, none⟩) n cY :: .slice AZ n cZ :: .slice (some ⟨gS, 0, none⟩) n n :: .int .i64 ↑k :: .int .i64 ↑j :: undef :: undef :: undef :: undef :: undef :: undef :: undef :: undef :: undef :: undef :: undef :: .int .u8 ↑p0 :: .int .i64 ↑p0 :: .int .i64 ↑n :: V 0 :: V 1 :: V 2 :: V 3 :: xc4 :: xc5 :: V 6 :: V 7 :: V 8 :: V 9 :: xc10 :: xc11 :: V 12 :: V 13 :: V 14 :: xc15 :: .slice (some ⟨bX, fX, none⟩) n cX :: .int .i64 ↑n :: .int .i64 ↑n :: .bool false :: .bool false :: .slice (some ⟨bY, fY, none⟩) n cY :: .int .i64 ↑n :: .int .i64 ↑n :: .bool false :: .bool false :: .int .i64 ↑n :: .slice (some ⟨gS, 0, none⟩) n n :: .slice (some ⟨gS, 0, none⟩) n n :: .int .i64 ↑n :: .int .i64 ↑k :: .bool true :: .int .i64 ↑k :: .slice (some ⟨gS, 0, none⟩) n n :: .int .i64 ↑k :: .int .i64 ↑n :: .slice (some ⟨gn, 0, none⟩) n n :: .pointer (some ⟨gS, k, none⟩) :: .slice (some ⟨bX, fX, none⟩) n cX :: .int .i64 ↑k :: .pointer (some { block := bX, off := fX + k }) :: .slice (some ⟨gxo, 0, none⟩) n kxo :: .int .i64 ↑n :: .int .i64 ↑n :: .bool false :: .bool false :: .slice (some ⟨bY, fY, none⟩) n cY :: .int .i64 ↑k :: .pointer (some { block := bY, off := fY + k }) :: .slice (some ⟨gyo, 0, none⟩) n kyo :: .int .i64 ↑n :: .int .i64 ↑n :: .bool false :: .bool false :: .slice (some ⟨gS, 0, none⟩) n n :: .int .i64 ↑k :: .pointer (some ⟨gS, k, none⟩) :: .slice (some ⟨gr, 0, none⟩) n n :: .int .i64 ↑n :: .int .i64 ↑j :: .bool true :: .int .i64 ↑j :: V2 0 :: V2 1 :: V2 2 :: V2 3 :: V2 4 :: V2 5 :: V2 6 :: V2 7 :: V2 8 :: V2 9 :: V2 10 :: V2 11 :: V2 12 :: V2 13 :: V2 14 :: V2 15 :: V2 16 :: V2 17 :: V2 18 :: xd19 :: V2 20 :: u110 :: u111 :: undef :: undef :: undef :: undef :: undef :: undef :: undef :: undef :: undef :: undef :: undef :: undef :: undef :: undef :: undef :: undef :: undef :: undef :: undef :: undef :: undef :: undef :: undef :: undef :: undef :: undef :: undef :: undef :: undef :: undef :: undef :: undef :: undef :: undef :: undef :: undef :: undef :: undef :: undef :: undef :: undef :: undef :: undef :: undef :: undef :: undef :: undef :: undef :: undef :: undef :: undef :: []), []⟩ ∧ OnFix l V2 (fun zz => List.getD [.slice (some ⟨gS, 0, none⟩) n n, .int .i64 k, .pointer (some ⟨gS, k, none⟩), .slice (some ⟨gq, 0, none⟩) n n, .int .i64 j, .slice (some ⟨bX, fX, none⟩) n cX, .int .i64 k, .pointer (some ⟨bX, fX + k, none⟩), .slice (some ⟨gx, 0, none⟩) n kx, .int .i64 j, .pointer (some ⟨gx, j * 5, none⟩), .agg #[.bool (sn (na x)), .slice A1 (ln (ab (na x))) (ln (ab (na x))), .bool (sn (nb x)), .slice A2 (ln (ab (nb x))) (ln (ab (nb x))), .slice A3 (ln (un x)) (ln (un x))], .slice (some ⟨bY, fY, none⟩) n cY, .int .i64 k, .pointer (some ⟨bY, fY + k, none⟩), .slice (some ⟨gy, 0, none⟩) n ky, .int .i64 j, .pointer (some ⟨gy, j * 5, none⟩), .agg #[.bool (sn (na y)), .slice B1 (ln (ab (na y))) (ln (ab (na y))), .bool (sn (nb y)), .slice B2 (ln (ab (nb y))) (ln (ab (nb y))), .slice B3 (ln (un y)) (ln (un y))], undef, .pointer (some ⟨gq, j * 5, none⟩), undef] zz undef) [0, 1, 2, 3, 4, 5, 6, 7, 8, 9, 10, 11, 12, 13, 14, 15, 16, 17, 18, 20] ∧ Off l 21 (Below wr.heap.size wr w' ∧ On l 19 (SlotNum w' xd19 (x.add y))) ∧ On l 21 (MkP w1 gS n n (k + 1) (fun a b => a < k ∨ (a = k ∧ b < j + 1)) sm w') ∧ Edg l [(21, 20), (20, 3), (21, 19), (19, 11), (11, 10), (10, 8), (19, 18), (18, 17), (17, 15)] ∧ l.size = 22) ?_ ?_ _ _ _ _ (by decide) ?_
            · intro l a' W' i hi hI
              obtain ⟨V2, xd19, rfl, hv, hZ, hM0, hE, hz⟩ := hI
              obtain ⟨hlt, hoff, hpre⟩ := ready_pre hi
              have hc : i ∈ [0, 1, 2, 3, 4, 5, 6, 7, 8, 9, 10, 11, 12, 13, 14, 15, 16, 17, 18, 19, 20, 21] := (by decide : ∀ i, i < 22 → i ∈ [0, 1, 2, 3, 4, 5, 6, 7, 8, 9, 10, 11, 12, 13, 14, 15, 16, 17, 18, 19, 20, 21]) i hlt
              simp only [List.mem_cons, List.not_mem_nil, or_false] at hc
              clear hi hlt
              rcases hc with rfl | rfl | rfl | rfl | rfl | rfl | rfl | rfl | rfl | rfl | rfl | rfl | rfl | rfl | rfl | rfl | rfl | rfl | rfl | rfl | rfl | rfl <;> (have hp := hpre _ rfl; simp [Region.binds] at hp; clear hpre)
              · skip
                have HV := Lib.hid hv
                clear hv
                refine wpOp_go rfl rfl (fun K hK => ?_)
                go_simp
                refine hK _ _ ?_
                exact ⟨_, _, rfl, HV.out.new (x := .slice (some ⟨gS, 0, none⟩) n n) rfl, hZ.keep.map (fun ⟨hb0, y19⟩ => ⟨hb0, y19.keep (by decide)⟩), hM0.keep (by decide), hE.mono (by decide), by simp [hz]⟩
              · skip
                have HV := Lib.hid hv
                clear hv
                refine wpOp_go rfl rfl (fun K hK => ?_)
                go_simp
                refine hK _ _ ?_
                exact ⟨_, _, rfl, HV.out.new (x := .int .i64 k) rfl, hZ.keep.map (fun ⟨hb0, y19⟩ => ⟨hb0, y19.keep (by decide)⟩), hM0.keep (by decide), hE.mono (by decide), by simp [hz]⟩
              · skip
                have e0 : V2 0 = .slice (some ⟨gS, 0, none⟩) n n := hv.get 0 (by decide) (by simp [hp])
                have e1 : V2 1 = .int .i64 k := hv.get 1 (by decide) (by simp [hp])
                have HV := Lib.hid ((hv.fixE e0 rfl).fixE e1 rfl)
                clear hv
                simp only [e0, e1]
                refine wpOp_go rfl rfl (fun K hK => ?_)
                go_simp
                refine hK _ _ ?_
                exact ⟨_, _, rfl, HV.out.new (x := .pointer (some ⟨gS, k, none⟩)) rfl, hZ.keep.map (fun ⟨hb0, y19⟩ => ⟨hb0, y19.keep (by decide)⟩), hM0.keep (by decide), hE.mono (by decide), by simp [hz]⟩
              · skip
                have e2 : V2 2 = .pointer (some ⟨gS, k, none⟩) := hv.get 2 (by decide) (by simp [hp])
                have HV := Lib.hid (hv.fixE e2 rfl)
                clear hv
                simp only [e2]
                have hY := hZ.get (fun h => off hoff (hE.get 20 3 (by decide) (hE.get 21 20 (by decide) h)))
                have z := keepc hY.1 s1 lS
                refine wpOp_go rfl rfl (fun K hK => ?_)
                go_simp
                refine hK _ _ ?_
                exact ⟨_, _, rfl, HV.out.new (x := .slice (some ⟨gq, 0, none⟩) n n) rfl, hZ.keep.map (fun ⟨hb0, y19⟩ => ⟨hb0, y19.keep (by decide)⟩), hM0.keep (by decide), hE.mono (by decide), by simp [hz]⟩
              · skip
                have HV := Lib.hid hv
                clear hv
                refine wpOp_go rfl rfl (fun K hK => ?_)
                go_simp
                refine hK _ _ ?_
                exact ⟨_, _, rfl, HV.out.new (x := .int .i64 j) rfl, hZ.keep.map (fun ⟨hb0, y19⟩ => ⟨hb0, y19.keep (by decide)⟩), hM0.keep (by decide), hE.mono (by decide), by simp [hz]⟩
              · skip
                have HV := Lib.hid hv
                clear hv
                refine wpOp_go rfl rfl (fun K hK => ?_)
                go_simp
                refine hK _ _ ?_
                exact ⟨_, _, rfl, HV.out.new (x := .slice (some ⟨bX, fX, none⟩) n cX) rfl, hZ.keep.map (fun ⟨hb0, y19⟩ => ⟨hb0, y19.keep (by decide)⟩), hM0.keep (by decide), hE.mono (by decide), by simp [hz]⟩
              · skip
                have HV := Lib.hid hv
                clear hv
                refine wpOp_go rfl rfl (fun K hK => ?_)
                go_simp
                refine hK _ _ ?_
                exact ⟨_, _, rfl, HV.out.new (x := .int .i64 k) rfl, hZ.keep.map (fun ⟨hb0, y19⟩ => ⟨hb0, y19.keep (by decide)⟩), hM0.keep (by decide), hE.mono (by decide), by simp [hz]⟩
              · skip
                have e5 : V2 5 = .slice (some ⟨bX, fX, none⟩) n cX := hv.get 5 (by decide) (by simp [hp])
                have e6 : V2 6 = .int .i64 k := hv.get 6 (by decide) (by simp [hp])
                have HV := Lib.hid ((hv.fixE e5 rfl).fixE e6 rfl)
                clear hv
                simp only [e5, e6]
                refine wpOp_go rfl rfl (fun K hK => ?_)
                go_simp
                refine hK _ _ ?_
                exact ⟨_, _, rfl, HV.out.new (x := .pointer (some ⟨bX, fX + k, none⟩)) rfl, hZ.keep.map (fun ⟨hb0, y19⟩ => ⟨hb0, y19.keep (by decide)⟩), hM0.keep (by decide), hE.mono (by decide), by simp [hz]⟩
              · skip
                have e7 : V2 7 = .pointer (some ⟨bX, fX + k, none⟩) := hv.get 7 (by decide) (by simp [hp])
                have HV := Lib.hid (hv.fixE e7 rfl)
                clear hv
                simp only [e7]
                have hY := hZ.get (fun h => off hoff (hE.get 10 8 (by decide) (hE.get 11 10 (by decide) (hE.get 19 11 (by decide) (hE.get 21 19 (by decide) h)))))
                have z := keepc hY.1 r1 hlX
                refine wpOp_go rfl rfl (fun K hK => ?_)
                go_simp
                refine hK _ _ ?_
                exact ⟨_, _, rfl, HV.out.new (x := .slice (some ⟨gx, 0, none⟩) n kx) rfl, hZ.keep.map (fun ⟨hb0, y19⟩ => ⟨hb0, y19.keep (by decide)⟩), hM0.keep (by decide), hE.mono (by decide), by simp [hz]⟩
              · skip
                have HV := Lib.hid hv
                clear hv
                refine wpOp_go rfl rfl (fun K hK => ?_)
                go_simp
                refine hK _ _ ?_
                exact ⟨_, _, rfl, HV.out.new (x := .int .i64 j) rfl, hZ.keep.map (fun ⟨hb0, y19⟩ => ⟨hb0, y19.keep (by decide)⟩), hM0.keep (by decide), hE.mono (by decide), by simp [hz]⟩
              · skip
                have e8 : V2 8 = .slice (some ⟨gx, 0, none⟩) n kx := hv.get 8 (by decide) (by simp [hp])
                have e9 : V2 9 = .int .i64 j := hv.get 9 (by decide) (by simp [hp])
                have HV := Lib.hid ((hv.fixE e8 rfl).fixE e9 rfl)
                clear hv
                simp only [e8, e9]
                refine wpOp_go rfl rfl (fun K hK => ?_)
                go_simp
                refine hK _ _ ?_
                exact ⟨_, _, rfl, HV.out.new (x := .pointer (some ⟨gx, j * 5, none⟩)) rfl, hZ.keep.map (fun ⟨hb0, y19⟩ => ⟨hb0, y19.keep (by decide)⟩), hM0.keep (by decide), hE.step (by simp [hp]), by simp [hz]⟩
              · skip
                have e10 : V2 10 = .pointer (some ⟨gx, j * 5, none⟩) := hv.get 10 (by decide) (by simp [hp])
                have HV := Lib.hid (hv.fixE e10 rfl)
                clear hv
                simp only [e10]
                have hY := hZ.get (fun h => off hoff (hE.get 19 11 (by decide) (hE.get 21 19 (by decide) h)))
                obtain ⟨z0, z1, z2, z3, z4⟩ := hcs
                have y0 := keepc hY.1 z0 lx; have y1 := keepc hY.1 z1 lx; have y2 := keepc hY.1 z2 lx; have y3 := keepc hY.1 z3 lx; have y4 := keepc hY.1 z4 lx
                refine wpOp_go rfl rfl (fun K hK => ?_)
                go_simp
                refine hK _ _ ?_
                exact ⟨_, _, rfl, HV.out.new (x := .agg #[.bool (sn (na x)), .slice A1 (ln (ab (na x))) (ln (ab (na x))), .bool (sn (nb x)), .slice A2 (ln (ab (nb x))) (ln (ab (nb x))), .slice A3 (ln (un x)) (ln (un x))]) rfl, hZ.keep.map (fun ⟨hb0, y19⟩ => ⟨hb0, y19.keep (by decide)⟩), hM0.keep (by decide), hE.step (by simp [hp]), by simp [hz]⟩
              · skip
                have HV := Lib.hid hv
                clear hv
                refine wpOp_go rfl rfl (fun K hK => ?_)
                go_simp
                refine hK _ _ ?_
                exact ⟨_, _, rfl, HV.out.new (x := .slice (some ⟨bY, fY, none⟩) n cY) rfl, hZ.keep.map (fun ⟨hb0, y19⟩ => ⟨hb0, y19.keep (by decide)⟩), hM0.keep (by decide), hE.mono (by decide), by simp [hz]⟩
              · skip
                have HV := Lib.hid hv
                clear hv
                refine wpOp_go rfl rfl (fun K hK => ?_)
                go_simp
                refine hK _ _ ?_
                exact ⟨_, _, rfl, HV.out.new (x := .int .i64 k) rfl, hZ.keep.map (fun ⟨hb0, y19⟩ => ⟨hb0, y19.keep (by decide)⟩), hM0.keep (by decide), hE.mono (by decide), by simp [hz]⟩
              · skip
                have e12 : V2 12 = .slice (some ⟨bY, fY, none⟩) n cY := hv.get 12 (by decide) (by simp [hp])
                have e13 : V2 13 = .int .i64 k := hv.get 13 (by decide) (by simp [hp])
                have HV := Lib.hid ((hv.fixE e12 rfl).fixE e13 rfl)
                clear hv
                simp only [e12, e13]
                refine wpOp_go rfl rfl (fun K hK => ?_)
                go_simp
                refine hK _ _ ?_
                exact ⟨_, _, rfl, HV.out.new (x := .pointer (some ⟨bY, fY + k, none⟩)) rfl, hZ.keep.map (fun ⟨hb0, y19⟩ => ⟨hb0, y19.keep (by decide)⟩), hM0.keep (by decide), hE.mono (by decide), by simp [hz]⟩
              · skip
                have e14 : V2 14 = .pointer (some ⟨bY, fY + k, none⟩) := hv.get 14 (by decide) (by simp [hp])
                have HV := Lib.hid (hv.fixE e14 rfl)
                clear hv
                simp only [e14]
                have hY := hZ.get (fun h => off hoff (hE.get 17 15 (by decide) (hE.get 18 17 (by decide) (hE.get 19 18 (by decide) (hE.get 21 19 (by decide) h)))))
                have z := keepc hY.1 p1 hlY
                refine wpOp_go rfl rfl (fun K hK => ?_)
                go_simp
                refine hK _ _ ?_
                exact ⟨_, _, rfl, HV.out.new (x := .slice (some ⟨gy, 0, none⟩) n ky) rfl, hZ.keep.map (fun ⟨hb0, y19⟩ => ⟨hb0, y19.keep (by decide)⟩), hM0.keep (by decide), hE.mono (by decide), by simp [hz]⟩
              · skip
                have HV := Lib.hid hv
                clear hv
                refine wpOp_go rfl rfl (fun K hK => ?_)
                go_simp
                refine hK _ _ ?_
                exact ⟨_, _, rfl, HV.out.new (x := .int .i64 j) rfl, hZ.keep.map (fun ⟨hb0, y19⟩ => ⟨hb0, y19.keep (by decide)⟩), hM0.keep (by decide), hE.mono (by decide), by simp [hz]⟩
              · skip
                have e15 : V2 15 = .slice (some ⟨gy, 0, none⟩) n ky := hv.get 15 (by decide) (by simp [hp])
                have e16 : V2 16 = .int .i64 j := hv.get 16 (by decide) (by simp [hp])
                have HV := Lib.hid ((hv.fixE e15 rfl).fixE e16 rfl)
                clear hv
                simp only [e15, e16]
                refine wpOp_go rfl rfl (fun K hK => ?_)
                go_simp
                refine hK _ _ ?_
                exact ⟨_, _, rfl, HV.out.new (x := .pointer (some ⟨gy, j * 5, none⟩)) rfl, hZ.keep.map (fun ⟨hb0, y19⟩ => ⟨hb0, y19.keep (by decide)⟩), hM0.keep (by decide), hE.step (by simp [hp]), by simp [hz]⟩
              · skip
                have e17 : V2 17 = .pointer (some ⟨gy, j * 5, none⟩) := hv.get 17 (by decide) (by simp [hp])
                have HV := Lib.hid (hv.fixE e17 rfl)
                clear hv
                simp only [e17]
                have hY := hZ.get (fun h => off hoff (hE.get 19 18 (by decide) (hE.get 21 19 (by decide) h)))
                obtain ⟨z0, z1, z2, z3, z4⟩ := hds
                have y0 := keepc hY.1 z0 ly; have y1 := keepc hY.1 z1 ly; have y2 := keepc hY.1 z2 ly; have y3 := keepc hY.1 z3 ly; have y4 := keepc hY.1 z4 ly
                refine wpOp_go rfl rfl (fun K hK => ?_)
                go_simp
                refine hK _ _ ?_
                exact ⟨_, _, rfl, HV.out.new (x := .agg #[.bool (sn (na y)), .slice B1 (ln (ab (na y))) (ln (ab (na y))), .bool (sn (nb y)), .slice B2 (ln (ab (nb y))) (ln (ab (nb y))), .slice B3 (ln (un y)) (ln (un y))]) rfl, hZ.keep.map (fun ⟨hb0, y19⟩ => ⟨hb0, y19.keep (by decide)⟩), hM0.keep (by decide), hE.step (by simp [hp]), by simp [hz]⟩
              · skip
                have e11 : V2 11 = .agg #[.bool (sn (na x)), .slice A1 (ln (ab (na x))) (ln (ab (na x))), .bool (sn (nb x)), .slice A2 (ln (ab (nb x))) (ln (ab (nb x))), .slice A3 (ln (un x)) (ln (un x))] := hv.get 11 (by decide) (by simp [hp])
                have e18 : V2 18 = .agg #[.bool (sn (na y)), .slice B1 (ln (ab (na y))) (ln (ab (na y))), .bool (sn (nb y)), .slice B2 (ln (ab (nb y))) (ln (ab (nb y))), .slice B3 (ln (un y)) (ln (un y))] := hv.get 18 (by decide) (by simp [hp])
                have HV := Lib.hid ((hv.fixE e11 rfl).fixE e18 rfl)
                clear hv
                simp only [e11, e18]
                have hY := hZ.get (fun h => off hoff (hE.get 21 19 (by decide) h))
                refine wpOp_go rfl rfl (fun K hK => ?_)
                go_wp2_with (first | (go_at_call 22; refine (add_num x y A1 A2 A3 B1 B2 B3 _ (hN.to hY.1) (hMM.to hY.1) ZZ.out.1 ZZ.out.2).mono ?_; rintro e wf ⟨E1, E2, E3, rfl, hNN, hb⟩))
                try refine hK _ _ ?_
                exact ⟨_, _, rfl, HV.out.other (by decide), Off.new ⟨hY.1.trans (hb.mono hY.1.size), On.new (⟨E1, E2, E3, rfl, hNN⟩)⟩, fun h => absurd (hE.get 21 19 (by decide) (on_ne h (by decide))) (off hoff), hE.step (by simp [hp]), by simp [hz]⟩
              · skip
                have e3 : V2 3 = .slice (some ⟨gq, 0, none⟩) n n := hv.get 3 (by decide) (by simp [hp])
                have e4 : V2 4 = .int .i64 j := hv.get 4 (by decide) (by simp [hp])
                have HV := Lib.hid ((hv.fixE e3 rfl).fixE e4 rfl)
                clear hv
                simp only [e3, e4]
                refine wpOp_go rfl rfl (fun K hK => ?_)
                go_simp
                refine hK _ _ ?_
                exact ⟨_, _, rfl, HV.out.new (x := .pointer (some ⟨gq, j * 5, none⟩)) rfl, hZ.keep.map (fun ⟨hb0, y19⟩ => ⟨hb0, y19.keep (by decide)⟩), hM0.keep (by decide), hE.step (by simp [hp]), by simp [hz]⟩
              · skip
                have e20 : V2 20 = .pointer (some ⟨gq, j * 5, none⟩) := hv.get 20 (by decide) (by simp [hp])
                have HV := Lib.hid (hv.fixE e20 rfl)
                clear hv
                simp only [e20]
                have hY := hZ.get (off hoff)
                obtain ⟨E1, E2, E3, e1, hNN⟩ := hY.2.get (by simp [hp])
                subst e1
                obtain ⟨⟨u0, u1, u2, u3, u4, d0, d1, d2, d3, d4⟩, ⟨f0, f1, f2, f3, f4⟩, hfin⟩ := hput W' hY.1
                refine wpOp_go rfl rfl (fun K hK => ?_)
                go_simp
                refine hK _ _ ?_
                obtain ⟨XX, hX⟩ : ∃ XX : World, XX = set5o W' gq (j * 5) (x.add y) E1 E2 E3 := ⟨_, rfl⟩
                have hw : set5o W' gq (j * 5) (x.add y) E1 E2 E3 = XX := hX.symm
                unfold set5o at hw
                rw [hw]
                subst hX
                exact ⟨_, _, rfl, HV.out.other (by decide), Off.done (by omega), On.new (hfin (fun a b => a < k ∨ (a = k ∧ b < j + 1)) sm _ E1 E2 E3 hNN HNEW.out (fun a b h hd => ⟨by omega, rfl⟩)), hE.step (by simp [hp]), by simp [hz]⟩
            · intro l a' W' hr hI
              obtain ⟨V2, xd19, rfl, hv, hZ, hM0, hE, hz⟩ := hI
              have a0 := not_ready (i := 0) hr hz rfl (by simp [Region.binds])
              have a1 := not_ready (i := 1) hr hz rfl (by simp [Region.binds, a0])
              have a2 := not_ready (i := 2) hr hz rfl (by simp [Region.binds, a0, a1])
              have a3 := not_ready (i := 3) hr hz rfl (by simp [Region.binds, a0, a1, a2])
              have a4 := not_ready (i := 4) hr hz rfl (by simp [Region.binds, a0, a1, a2, a3])
              have a5 := not_ready (i := 5) hr hz rfl (by simp [Region.binds, a0, a1, a2, a3, a4])
              have a6 := not_ready (i := 6) hr hz rfl (by simp [Region.binds, a0, a1, a2, a3, a4, a5])
              have a7 := not_ready (i := 7) hr hz rfl (by simp [Region.binds, a0, a1, a2, a3, a4, a5, a6])
              have a8 := not_ready (i := 8) hr hz rfl (by simp [Region.binds, a0, a1, a2, a3, a4, a5, a6, a7])
              have a9 := not_ready (i := 9) hr hz rfl (by simp [Region.binds, a0, a1, a2, a3, a4, a5, a6, a7, a8])
              have a10 := not_ready (i := 10) hr hz rfl (by simp [Region.binds, a0, a1, a2, a3, a4, a5, a6, a7, a8, a9])
              have a11 := not_ready (i := 11) hr hz rfl (by simp [Region.binds, a0, a1, a2, a3, a4, a5, a6, a7, a8, a9, a10])
              have a12 := not_ready (i := 12) hr hz rfl (by simp [Region.binds, a0, a1, a2, a3, a4, a5, a6, a7, a8, a9, a10, a11])
              have a13 := not_ready (i := 13) hr hz rfl (by simp [Region.binds, a0, a1, a2, a3, a4, a5, a6, a7, a8, a9, a10, a11, a12])
              have a14 := not_ready (i := 14) hr hz rfl (by simp [Region.binds, a0, a1, a2, a3, a4, a5, a6, a7, a8, a9, a10, a11, a12, a13])
              have a15 := not_ready (i := 15) hr hz rfl (by simp [Region.binds, a0, a1, a2, a3, a4, a5, a6, a7, a8, a9, a10, a11, a12, a13, a14])
              have a16 := not_ready (i := 16) hr hz rfl (by simp [Region.binds, a0, a1, a2, a3, a4, a5, a6, a7, a8, a9, a10, a11, a12, a13, a14, a15])
              have a17 := not_ready (i := 17) hr hz rfl (by simp [Region.binds, a0, a1, a2, a3, a4, a5, a6, a7, a8, a9, a10, a11, a12, a13, a14, a15, a16])
              have a18 := not_ready (i := 18) hr hz rfl (by simp [Region.binds, a0, a1, a2, a3, a4, a5, a6, a7, a8, a9, a10, a11, a12, a13, a14, a15, a16, a17])
              have a19 := not_ready (i := 19) hr hz rfl (by simp [Region.binds, a0, a1, a2, a3, a4, a5, a6, a7, a8, a9, a10, a11, a12, a13, a14, a15, a16, a17, a18])
              have a20 := not_ready (i := 20) hr hz rfl (by simp [Region.binds, a0, a1, a2, a3, a4, a5, a6, a7, a8, a9, a10, a11, a12, a13, a14, a15, a16, a17, a18, a19])
              have a21 := not_ready (i := 21) hr hz rfl (by simp [Region.binds, a0, a1, a2, a3, a4, a5, a6, a7, a8, a9, a10, a11, a12, a13, a14, a15, a16, a17, a18, a19, a20])
              have hY := hM0.get a21
              clear hr hz hv hZ a0 a1 a2 a3 a4 a5 a6 a7 a8 a9 a10 a11 a12 a13 a14 a15 a16 a17 a18 a19 a20 a21 hM0 hE
              go_wp2_with fail
              go_roundw
              case rel => exact ⟨j + 1, by omega, by go_num, hY⟩
              case measure => simp [intOf]; omega
            · exact ⟨fun zz => List.getD [u89, u90, u91, u92, u93, u94, u95, u96, u97, u98, u99, u100, u101, u102, u103, u104, u105, u106, u107, u108, u109, undef] zz undef, _, rfl, OnFix.start, Off.new ⟨((Below.refl _ _).drew), fun h => absurd h (by decide)⟩, fun h => absurd h (by decide), Edg.start, by simp⟩
          · obtain rfl : j = n := by omega
            have HMN := Lib.hid (hM.cong (D' := fun a b => a < k + 1) (f' := sm) (fun a b _ hb hd => ⟨by omega, rfl⟩))
            clear hM
            go_wp2_with fail
            go_roundw
            case rel => exact ⟨k + 1, by omega, by go_num, HMN.out⟩
            case measure => simp [intOf]; omega
      · obtain rfl : k = n := by omega
        obtain ⟨hS1, hS2⟩ := (hM.cong (D' := fun _ _ => True) (f' := sm) (fun a b ha hb _ => ⟨ha, rfl⟩)).fin (fun _ _ => trivial)
        replace HB1 := Lib.hid (HB1.out.trans (hS2.mono HB1.out.size))
        replace HX := Lib.hid (HX.out.to hS2)
        replace HYY := Lib.hid (HYY.out.to hS2)
        replace HZ := Lib.hid (HZ.out.to hS2)
        have HSS := Lib.hid hS1
        clear hM hS1 hS2
        obtain ⟨n, hnn⟩ : ∃ n, n = k := ⟨_, rfl⟩
        subst hnn
        go_wp2_with fail
        refine (adjoint_sq _ AZ n cZ sc HZ.out hn4).mono ?_
        rintro e w5 ⟨AT, cT, rfl, hTT, hb⟩
        replace HB1 := Lib.hid (HB1.out.trans (hb.mono HB1.out.size))
        replace HX := Lib.hid (HX.out.to hb)
        replace HYY := Lib.hid (HYY.out.to hb)
        replace HZ := Lib.hid (HZ.out.to hb)
        replace HSS := Lib.hid (HSS.out.to hb)
        have HC := Lib.hid (product_sq w5 AT (some ⟨gS, 0, none⟩) n cT n 2 61 (adj sc) sm hTT HSS.out hn4 (by decide) (sz_adj HZC.out) HFS.out.1)
        clear hb hTT
        go_wp2_with fail
        refine HC.out.mono ?_
        rintro e w6 ⟨AP, cP, rfl, hP, hb⟩
        replace HB1 := Lib.hid (HB1.out.trans (hb.mono HB1.out.size))
        replace HX := Lib.hid (HX.out.to hb)
        replace HYY := Lib.hid (HYY.out.to hb)
        replace HZ := Lib.hid (HZ.out.to hb)
        replace HSS := Lib.hid (HSS.out.to hb)
        have zP : ∀ i k, i < n → k < n → sz 300 (dotC (adj sc) sm i k n) := fun i k hi hk => (sz_dot4 (A := 2) (B := 61) hn4 fun l hl => ⟨sz_adj HZC.out i l hi hl, HFS.out.1 l k hl hk⟩).mono (by decide)
        have HC2 := Lib.hid (product_sq w6 AP AZ n cP cZ 300 2 (fun i k => dotC (adj sc) sm i k n) sc hP HZ.out hn4 (by decide) zP HZC.out)
        have HZP := Lib.hid zP
        clear hb hP HC zP
        go_wp2_with fail
        refine HC2.out.mono ?_
        rintro e w7 ⟨AQ, cQ, rfl, hQ, hb⟩
        replace HB1 := Lib.hid (HB1.out.trans (hb.mono HB1.out.size))
        have G0 : Good w7 n (.slice AX n cX) := ⟨_, _, fx, rfl, HX.out.to hb, HFX.out.2.1, HFX.out.2.2, fun i k hi hk => (HFX.out.1 i k hi hk).mono (by decide)⟩
        have G1 : Good w7 n (.slice AY n cY) := ⟨_, _, fy, rfl, HYY.out.to hb, HFY.out.2.1, HFY.out.2.2, fun i k hi hk => (HFY.out.1 i k hi hk).mono (by decide)⟩
        have G2 : Good w7 n (.slice (some ⟨gS, 0, none⟩) n n) := ⟨_, _, sm, rfl, HSS.out.to hb, HFS.out.2.1, HFS.out.2.2, fun i k hi hk => (HFS.out.1 i k hi hk).mono (by decide)⟩
        have G3 : Good w7 n (.slice AQ n cQ) := ⟨_, _, cong n sc sm, rfl, hQ, herm_cong HFS.out.2.1, psd_cong HFS.out.2.2, fun i k hi hk => (sz_dot4 (A := 300) (B := 2) hn4 fun l hl => ⟨HZP.out i l hi hl, HZC.out l k hl hk⟩).mono (by decide)⟩
        have HG0 := Lib.hid G0; have HG1 := Lib.hid G1; have HG2 := Lib.hid G2; have HG3 := Lib.hid G3
        clear hb hQ HC2 G0 G1 G2 G3 HX HYY HZ HSS HFX HFY HFS HZC HZP HSM
        go_upto_region 25 with fail
        obtain ⟨w8, hw8⟩ : ∃ W : World, W = w7.alloc (.cells #[.slice AX n cX, .slice AY n cY, .slice (some ⟨gS, 0, none⟩) n n, .slice AQ n cQ] 24) := ⟨_, rfl⟩
        have hb8 : Below w7.heap.size w7 (w7.alloc (.cells #[.slice AX n cX, .slice AY n cY, .slice (some ⟨gS, 0, none⟩) n n, .slice AQ n cQ] 24)) := (Below.refl _ _).alloc (Nat.le_refl _) _
        obtain ⟨gA, hgA⟩ : ∃ g, g = w7.heap.size := ⟨_, rfl⟩
        rw [← hw8] at hb8 ⊢
        rw [← hgA]
        have each : ∀ r, r < 4 → ∃ D c, w8.cell? ⟨gA, r, none⟩ = some (.slice D n c) ∧ Good w8 n (.slice D n c) := fun r hr => by
          have : r = 0 ∨ r = 1 ∨ r = 2 ∨ r = 3 := by omega
          rcases this with rfl | rfl | rfl | rfl
          · exact ⟨_, _, by rw [hw8, hgA]; go_simp, HG0.out.to hb8⟩
          · exact ⟨_, _, by rw [hw8, hgA]; go_simp, HG1.out.to hb8⟩
          · exact ⟨_, _, by rw [hw8, hgA]; go_simp, HG2.out.to hb8⟩
          · exact ⟨_, _, by rw [hw8, hgA]; go_simp, HG3.out.to hb8⟩
        have HEA := Lib.hid each
        replace HB1 := Lib.hid (HB1.out.trans (hb8.mono HB1.out.size))
        clear each hw8 hb8 hgA HG0 HG1 HG2 HG3
        go_loopw [140] (fun i (wr : World) => ∃ r : Nat, r ≤ 4 ∧ i = .int .i64 r ∧ Below w8.heap.size w8 wr) (fun i _ => 4 - (intOf i).toNat)
        case atStart => exact ⟨0, Nat.zero_le _, rfl, Below.refl _ _⟩
        case round =>
          obtain ⟨r, hr, rfl, hb⟩ := hrel
          by_cases hr4 : r < 4
          · obtain ⟨D, c, hc, hG⟩ := HEA.out r hr4
            have hc2 := keepc hb hc (World.block_lt_of_cell? w8 ⟨gA, _, none⟩ hc)
            have HD := Lib.hid (good_def wr n D c (hG.to hb) hn4)
            have HBR := Lib.hid hb
            have i1 : (0 : Int) ≤ (r : Int) := by omega
            have i2 : (r : Int) < 4 := by omega
            clear hc hG hb
            go_wp2_with fail
            refine HD.out.mono ?_
            rintro e w9 ⟨rfl, hb⟩
            have HBN := Lib.hid (HBR.out.trans (hb.mono HBR.out.size))
            clear hb HD HBR hc2
            go_wp2_with fail
            go_roundw
            case rel => exact ⟨r + 1, by omega, by go_num, HBN.out⟩
            case measure => simp [intOf]; omega
          · obtain rfl : r = 4 := by omega
            have HBN := Lib.hid (HB1.out.trans (hb.mono HB1.out.size))
            clear hb
            go_wp2_with fail
            refine (awake_any _).mono ?_
            rintro e w9 ⟨rfl, hb⟩
            go_wp2_with fail
            go_ret
            exact ⟨rfl, HBN.out.trans (hb.mono HBN.out.size)⟩
  · exact ⟨fun zz => List.getD [undef, undef, undef, undef, undef, undef, undef, undef, undef, undef, undef, undef, undef, undef, undef, undef, undef, undef, undef] zz undef, _, _, _, _, _, _, _, _, rfl, OnFix.start, ⟨((Below.refl _ _).drew), fun h => absurd h (by decide), fun h => absurd h (by decide), fun h => absurd h (by decide), fun h => absurd h (by decide), fun h => absurd h (by decide), fun h => absurd h (by decide), fun h => absurd h (by decide), fun h => absurd h (by decide)⟩, by simp⟩
end Go.Proofs.Ytdpjknjlhchmcaa

namespace Go.Proofs.Ytdpjknjlhchmcaa
open Go.ChangeShapes Go.WideShapes Go.ChangeAt Go.RowKit Go.Joins Go.Deep Pl
set_option linter.unusedVariables false
section
variable {H : Type} {enc : TypeId × Value → H} {P : Program}
/-- A slice of structs of three int64s, opened. -/
theorem open_triples_cs {W : World} {t e q : TypeId} {f0 f1 f2 : Field} {fuel : Nat} {cs : List Value} {x : DataW H × List MemPlace} (ht : P.underlying t = some (.slice e)) (he : P.underlying e = some (.struct #[f0, f1, f2])) (ce : P.cellsOf e = 3)
    (o0 : f0.offset = 0 ∧ f0.type = q) (o1 : f1.offset = 1 ∧ f1.type = q) (o2 : f2.offset = 2 ∧ f2.type = q) (hq : P.underlying q = some (.int .i64)) (cq : P.cellsOf q = 1)
    (hf : DataW.trod enc P W 0 (fun _ => true) true fuel t cs = some x) :
    ∃ (A : Option Addr) (len cap : Nat) (X Y Z : Nat → Int), cs = [.slice A len cap] ∧ len ≤ cap ∧ cap ≤ maxLen ∧ Triples W A len X Y Z := by
  rcases open_slice ht hf with ⟨hcs, _⟩ | ⟨a, len, cap, m, n, D, Pl, hcs, hb, hl, hm, hmm, hx, hel⟩
  · exact ⟨none, 0, 0, fun _ => 0, fun _ => 0, fun _ => 0, hcs, Nat.le_refl _, by unfold maxLen; omega, fun i hi => absurd hi (by omega)⟩
  · have hm' : m = cap := hmm
    have each : ∀ i, i < len → ∃ z : Int × Int × Int, a.spot = none ∧ W.cell? ⟨a.block, a.off + i * 3, none⟩ = some (.int .i64 z.1) ∧ W.cell? ⟨a.block, a.off + i * 3 + 1, none⟩ = some (.int .i64 z.2.1) ∧ W.cell? ⟨a.block, a.off + i * 3 + 2, none⟩ = some (.int .i64 z.2.2) ∧
        (Lit.int .i64 z.1).wf = true ∧ (Lit.int .i64 z.2.1).wf = true ∧ (Lit.int .i64 z.2.2).wf = true := by
      intro i hi
      obtain ⟨c0', h01, h02⟩ := hel 0 (by omega)
      obtain ⟨_, l0, hc0⟩ := World.cells?_some h01
      have hsp : a.spot = none := by
        rw [ce] at l0 hc0
        have e0 := hc0 0 (by omega)
        have ez : ((a.add (0 * 3)).add 0) = a := by simp [Addr.add]
        rw [ez] at e0
        cases hs : a.spot with
        | none => rfl
        | some x =>
          have hlen : 0 < c0'.length := by omega
          rw [List.getElem?_eq_getElem hlen] at e0
          simp only [World.cell?] at e0
          split at e0
          · simp [hs] at e0
          · cases e0
      obtain ⟨cs', h1, h2⟩ := hel i (by omega)
      rw [ce] at h1
      obtain ⟨_, hlen, hcell⟩ := World.cells?_some h1
      obtain ⟨xs, k, hk, hxy, _, hxl, hff⟩ := DataW.trod_struct he h2
      match xs, hxl, cs', hlen with
      | [y0, y1, y2], _, [v0, v1, v2], _ =>
        have g0 := hff 0 f0 rfl
        have g1 := hff 1 f1 rfl
        have g2 := hff 2 f2 rfl
        simp [o0.1, o0.2, o1.1, o1.2, o2.1, o2.2, cq] at g0 g1 g2
        obtain ⟨z0, e0, _, w0⟩ := DataW.trod_int hq g0
        obtain ⟨z1, e1, _, w1⟩ := DataW.trod_int hq g1
        obtain ⟨z2, e2, _, w2⟩ := DataW.trod_int hq g2
        have k0 := hcell 0 (by omega)
        have k1 := hcell 1 (by omega)
        have k2 := hcell 2 (by omega)
        rw [add_add, add_none _ hsp] at k0 k1 k2
        simp at e0 e1 e2
        subst e0 e1 e2
        exact ⟨(z0, z1, z2), hsp, by simpa using k0, by simpa [Nat.add_assoc] using k1, by simpa [Nat.add_assoc] using k2, w0, w1, w2⟩
    obtain ⟨z, hz⟩ := choose_lt each
    refine ⟨some a, len, cap, fun i => (z i).1, fun i => (z i).2.1, fun i => (z i).2.2, hcs, hl, hm, fun i hi => ?_⟩
    obtain ⟨hsp, c0, c1, c2, w0, w1, w2⟩ := hz i hi
    have hlt : a.block < W.heap.size := by
      obtain ⟨c0', h01, _⟩ := hel 0 (by omega)
      have := World.cells?_block h01 (by rw [ce]; omega)
      simpa [Addr.add] using this
    exact ⟨a.block, a.off, by cases a; simp_all, hlt, c0, c1, c2, bounds_i64 w0, bounds_i64 w1, bounds_i64 w2⟩
end
end Go.Proofs.Ytdpjknjlhchmcaa

namespace Go.Proofs.Ytdpjknjlhchmcaa
open Go.ChangeShapes Go.WideShapes Go.ChangeAt Go.RowKit Go.Joins Go.Deep Pl
set_option linter.unusedVariables false
section
variable {H : Type} {enc : TypeId × Value → H} {P : Program}
theorem okWide_arrayg {w : World} {r : Reach} {base n : Nat} {t e : TypeId} {v : Value} (ht : P.underlying t = some (.array n e)) (h : Value.okWide P w r base t v) : ∃ cs, v = .agg cs ∧ cs.size = P.cellsOf t := by
  simp only [Value.okWide, ht] at h
  obtain ⟨cs, h1, h2, _⟩ := h
  exact ⟨cs, h1, h2⟩
theorem nat_u8g {z : Int} (h : (Lit.int .u8 z).wf = true) : ∃ n : Nat, z = n ∧ n < 256 := by
  have := bounds_u8 h
  exact ⟨z.toNat, by omega, by omega⟩
/-- A byte, opened. -/
theorem open_byteg {W : World} {q : TypeId} {v : Value} {d : DataW H} {ps : List MemPlace} (hq : P.underlying q = some (.int .u8)) (hv : ∃ n, v = .int .u8 n) (h : DataW.Trod enc P W 0 (fun _ => true) true q v d ps) :
    ∃ p0 : Nat, v = .int .u8 p0 ∧ p0 < 256 := by
  obtain ⟨n, rfl⟩ := hv
  obtain ⟨fuel, hf⟩ := h
  have hf' : DataW.trod enc P W 0 (fun _ => true) true fuel q [.int .u8 n] = some (d, ps) := hf
  obtain ⟨z0, e0, _, w0⟩ := DataW.trod_int hq hf'
  simp at e0
  subst e0
  obtain ⟨p0, rfl, h0⟩ := nat_u8g w0
  exact ⟨p0, rfl, h0⟩
/-- An array of three slices, opened. -/
theorem open_lists3 {W : World} {t q : TypeId} {r : Reach} {base : Nat} {v : Value} {d : DataW H} {ps : List MemPlace} (ht : P.underlying t = some (.array 3 q)) (hc : P.cellsOf t = 3) (cq : P.cellsOf q = 1)
    (hv : Value.okWide P W r base t v) (h : DataW.Trod enc P W 0 (fun _ => true) true t v d ps) :
    ∃ (c0 c1 c2 : Value) (n : Nat) (y0 y1 y2 : DataW H × List MemPlace), v = .agg #[c0, c1, c2] ∧ DataW.trod enc P W 0 (fun _ => true) true n q [c0] = some y0 ∧ DataW.trod enc P W 0 (fun _ => true) true n q [c1] = some y1 ∧ DataW.trod enc P W 0 (fun _ => true) true n q [c2] = some y2 := by
  obtain ⟨cs, rfl, hs⟩ := okWide_arrayg ht hv
  rw [hc] at hs
  obtain ⟨fuel, hf⟩ := h
  obtain ⟨c0, c1, c2, rfl⟩ : ∃ c0 c1 c2, cs = #[c0, c1, c2] := by
    match cs, hs with
    | ⟨[c0, c1, c2]⟩, _ => exact ⟨c0, c1, c2, rfl⟩
  have hf' : DataW.trod enc P W 0 (fun _ => true) true fuel t [c0, c1, c2] = some (d, ps) := hf
  obtain ⟨y0, y1, y2, n, _, g0, g1, g2⟩ := trod_array3 ht cq hf'
  exact ⟨c0, c1, c2, n, y0, y1, y2, rfl, g0, g1, g2⟩
end
theorem numGram_own : ownKnob Try.prog.godebug = none := by kernel_rfl
theorem numGram_kids : Kids Try.prog (· < Try.prog.types.size) := kids_rows (by kernel_rfl) (by kernel_rfl)
theorem numGram_rows : ((List.range Try.prog.types.size).all fun t => match Try.prog.underlying t with | some (.slice e) => decide (0 < Try.prog.cellsOf e) | _ => true) = true := by kernel_rfl
theorem numGram_full : ∀ t e, t < Try.prog.types.size → Try.prog.underlying t = some (.slice e) → 0 < Try.prog.cellsOf e := by
  intro t e ht hu
  have h := List.all_eq_true.1 numGram_rows t (List.mem_range.2 ht)
  simp only [hu] at h
  simpa using h
theorem numGram_parB : (Try.f5.params.toList.all fun t => decide (t < Try.prog.types.size)) = true := by kernel_rfl
theorem numGram_par : ∀ t ∈ Try.f5.params.toList, t < Try.prog.types.size := by
  intro t ht
  simpa using List.all_eq_true.1 numGram_parB t ht
set_option maxRecDepth 100000 in
theorem numGram_lifted (os : Os) (started : os.Started) (H : Type) (enc : TypeId × Value → H) :
    ReturnsInHanded {} Try.checked os 5 .any (Rows.numGramSpec.pre6 enc Try.prog Try.f5 Rows.numGramRow.domain false) (Rows.numGramSpec.post enc Try.prog Try.f5 false true false false) := by
  refine returnsInHanded_of_change (C := Try.checked) numGram_own started (by kernel_rfl) Try.func5
    (ChangeSpec.witness6 (enc := enc) (C := Try.checked) false ⟨#[], #[.agg #[.slice none 0 0, .slice none 0 0, .slice none 0 0], .int .u8 0], []⟩ 8 (by kernel_rfl) (by kernel_rfl) (by kernel_rfl) (by kernel_rfl)) ?_
  intro W base args ds gs before hval0 hW hcnd _
  have hval : ∀ (j : Nat) t v, Try.f5.params[j]? = some t → args[j]? = some v → Value.okWide Try.prog W .any base t v := hval0
  have hW' := hW
  obtain ⟨p, q, hA0, hV, rfl, hfz, hnd⟩ := hW
  have hA : DataW.TrodAll enc Try.prog W 0 (fun _ => true) true Try.f5.params.toList args.toList ds p := hA0
  rw [Try.params5] at hA hval
  obtain ⟨v0, vs0, d0, ds0, p0, q0, hargs, rfl, rfl, h0, r0⟩ := trodAll_cons hA
  obtain ⟨v1, vs1, d1, ds1, p1, q1, rfl, rfl, rfl, h1, r1⟩ := trodAll_cons r0
  obtain ⟨rfl, rfl, rfl⟩ := trodAll_nil r1
  obtain rfl : args = #[v0, v1] := by cases args; simp_all
  obtain ⟨rfl, rfl⟩ := trodVars_none hV
  obtain ⟨c0, c1, c2, fu, y0, y1, y2, rfl, g0, g1, g2⟩ := open_lists3 Try.underlying51 (by kernel_rfl) (by kernel_rfl) (hval 0 51 v0 rfl rfl) h0
  obtain ⟨A, n, c, X, Y, Z, e0, hc0, hc1, hT⟩ := open_triples_cs Try.underlying22 Try.underlying59 (by kernel_rfl) ⟨rfl, rfl⟩ ⟨rfl, rfl⟩ ⟨rfl, rfl⟩ Try.underlying2 (by kernel_rfl) g0
  obtain ⟨B, m, d, U, V, T, e1, hd0, hd1, hU⟩ := open_triples_cs Try.underlying22 Try.underlying59 (by kernel_rfl) ⟨rfl, rfl⟩ ⟨rfl, rfl⟩ ⟨rfl, rfl⟩ Try.underlying2 (by kernel_rfl) g1
  obtain ⟨C, m2, d2, U2, V2, T2, e2, hs0, hs1, hU2⟩ := open_triples_cs Try.underlying22 Try.underlying59 (by kernel_rfl) ⟨rfl, rfl⟩ ⟨rfl, rfl⟩ ⟨rfl, rfl⟩ Try.underlying2 (by kernel_rfl) g2
  injection e0 with e0 _
  injection e1 with e1 _
  injection e2 with e2 _
  subst e0 e1 e2
  obtain ⟨b0, rfl, hb0⟩ := open_byteg Try.underlying5 (okWide_int Try.underlying5 (hval 1 5 v1 rfl rfl)) h1
  refine (gram_walk W A B C n c m d m2 d2 b0 X Y Z U V T U2 V2 T2 hT hU hU2 (Nat.le_trans hc0 hc1) (Nat.le_trans hd0 hd1) (Nat.le_trans hs0 hs1) hb0).mono fun e W' ⟨he, hg⟩ => ?_
  subst he
  simp only [List.append_nil] at hW' hA0
  exact ⟨_, rfl, read_post numGram_kids numGram_full numGram_par hW' hA0 (fun _ _ _ => trodAll_cons_mk (shut_bool Try.underlying4 _) trodAll_mk0) rfl (fun _ => rfl) hg⟩
theorem numGram_over : Rows.numGramRow.holds Try.pinned (OpenSpec.ofChange Rows.numGramSpec) :=
  OpenClaim.holds_of_wide 5 Try.f5 rfl rfl rfl rfl rfl rfl rfl ⟨rfl, rfl, rfl, rfl, rfl⟩ rfl rfl rfl rfl rfl (by kernel_rfl) Try.func5 (by kernel_rfl)
    (of_decide_eq_true (by kernel_rfl)) (by unfold Func.isWrapper; first | (rw [if_pos (by decide +kernel)]; kernel_rfl) | (rw [if_neg (by decide +kernel)]; exact ⟨rfl, rfl⟩))
    (fun os started H enc _ => numGram_lifted os started H enc)
/-- THE STATEMENT. -/
theorem numGram_holds : Rows.NumGramSaid := numGram_over
#print axioms numGram_holds
end Go.Proofs.Ytdpjknjlhchmcaa
