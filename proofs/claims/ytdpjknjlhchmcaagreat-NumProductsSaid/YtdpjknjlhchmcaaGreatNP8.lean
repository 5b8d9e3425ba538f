/- The program's 'Product' of any two matrices. The reference's 'Product'. The law's 'AreAll' and 'AreRows' of what is equal. 'slices.Repeat' of a slice of one number. A matrix of the program whose rows are made elsewhere, whose entries are stored. The reference's 'Identity'. The program's 'Identity'. NumProducts: the walk. Rows over slices of slices: a slice of slices of structs of three int64s, opened. The statement Rows.NumProductsSaid: for every input the law returns true, and each argument reads behind the call as it read before. No condition. -/
import Derived.Test.YtdpjknjlhchmcaaGreatNP7
import Derived.Test.YtdpjknjlhchmcaaGreatNP6
import Derived.Test.YtdpjknjlhchmcaaGreatNP4
import Derived.Test.YtdpjknjlhchmcaaGreatNP5
import Derived.Laws.CopyRow
import Derived.Test.YtdpjknjlhchmcaaGreatNP2
import Derived.Test.YtdpjknjlhchmcaaGreatNP3
import Derived.Test.YtdpjknjlhchmcaaGreatRows
namespace Go.Proofs.YtdpjknjlhchmcaaGreat
open Go.RowKit Pl
set_option linter.unusedVariables false
set_option linter.unusedSimpArgs false
/-- The sum of the first j products of row i and column k. -/
def dotC (f g : Nat → Nat → Cx) (i k : Nat) : Nat → Cx
  | 0 => Cx.zero
  | j + 1 => (dotC f g i k j).add ((f i j).mul (g j k))
theorem zero_add_c (x : Cx) : Cx.zero.add x = x := by
  cases x; simp [Cx.zero, Cx.add, Rat.zero_add]
theorem valid_col {n : Nat} {N : Nat → Nat} (hV : Valid n N) : ∀ j, j < n → N j = colN n N := by
  intro j hj
  unfold colN
  rw [if_neg (by omega)]
  rcases hV with h | ⟨_, _, h⟩
  · omega
  · exact h j hj
theorem col_le {n : Nat} {N : Nat → Nat} (hN : ∀ i, i < n → N i ≤ 1000) : colN n N ≤ 1000 := by
  unfold colN
  split
  · omega
  · exact hN 0 (by omega)
theorem bool_iff (p : Prop) : ∃ b : Bool, b = true ↔ p := by
  by_cases h : p
  · exact ⟨true, by simp [h]⟩
  · exact ⟨false, by simp [h]⟩
set_option maxRecDepth 100000 in
set_option maxHeartbeats 40000000 in
theorem product_no (w : World) (A B : Option Addr) (n c nq c2 : Nat) (N M : Nat → Nat) (f g : Nat → Nat → Cx) (hA : MatP w A n N f) (hB : MatP w B nq M g) (hn : n ≤ 1000) (hN : ∀ i, i < n → N i ≤ 1000) (hnq : nq ≤ 1000) (hM : ∀ i, i < nq → M i ≤ 1000)
    (hno : ¬ (Valid n N ∧ Valid nq M ∧ colN n N = nq)) :
    Calls Tryz.prog 22 #[.slice A n c, .slice B nq c2] w (RetErrE w 4) := by
  obtain ⟨R, K, hG, _⟩ := hA
  obtain ⟨R2, K2, hG2, _⟩ := hB
  have hp := col_le hN
  obtain ⟨oa, hoa⟩ := bool_iff (Valid n N)
  obtain ⟨ob, hob⟩ := bool_iff (Valid nq M)
  have HC := columns_any w A n c R N K hG hn hN oa hoa
  have HC2 := Lib.hid (fun w2 (hb : Below w.heap.size w w2) => columns_any w2 B nq c2 R2 M K2 (hG2.to hb) hnq hM ob hob)
  rw [← hoa, ← hob] at hno
  obtain ⟨p, hpp⟩ : ∃ p, p = colN n N := ⟨_, rfl⟩
  rw [← hpp] at HC hno hp
  have HNO := Lib.hid hno
  obtain ⟨m, hmm⟩ : ∃ m, m = colN nq M := ⟨_, rfl⟩
  rw [← hmm] at HC2
  clear hG hG2 hN hM hoa hob hno hpp hmm
  go_enter Tryz.func22, Tryz.ntmps22
  go_wp2_with fail
  refine HC.mono ?_
  rintro e w1 ⟨rfl, hb⟩
  go_wp2_with fail
  refine (HC2.out w1 hb).mono ?_
  rintro e w2 ⟨rfl, hb2⟩
  have hb3 := hb.trans (hb2.mono hb.size)
  clear hb hb2 HC HC2
  cases oa with
  | false =>
    go_wp2_with fail
    exact bodyPost_ret (v := .tuple #[.slice none 0 0, .int .i64 4]) (by simp [results, Tryz.results22, go_sem]) rfl ⟨rfl, hb3⟩
  | true =>
    cases ob with
    | false =>
      go_wp2_with fail
      exact bodyPost_ret (v := .tuple #[.slice none 0 0, .int .i64 4]) (by simp [results, Tryz.results22, go_sem]) rfl ⟨rfl, hb3⟩
    | true =>
      have t : ((p : Int) != (nq : Int)) = true := by rw [bne_iff_ne]; intro h; exact HNO.out ⟨rfl, rfl, by omega⟩
      go_wp2_with fail
      exact bodyPost_ret (v := .tuple #[.slice none 0 0, .int .i64 4]) (by simp [results, Tryz.results22, go_sem]) rfl ⟨rfl, hb3⟩
/-- An element of a matrix. -/
theorem MatP.at {w : World} {A : Option Addr} {n : Nat} {N : Nat → Nat} {f : Nat → Nat → Cx} (h : MatP w A n N f) {i j m : Nat} (hi : i < n) (hj : j < m) (hm : N i = m) :
    ∃ b fo g K' A1 A2 A3, A = some ⟨b, fo, none⟩ ∧ b < w.heap.size ∧ w.cell? ⟨b, fo + i, none⟩ = some (.slice (some ⟨g, 0, none⟩) m K') ∧ g < w.heap.size ∧
      (w.cell? ⟨g, j * 5, none⟩ = some (.bool (sn (na (f i j)))) ∧ w.cell? ⟨g, j * 5 + 1, none⟩ = some (.slice A1 (ln (ab (na (f i j)))) (ln (ab (na (f i j))))) ∧ w.cell? ⟨g, j * 5 + 2, none⟩ = some (.bool (sn (nb (f i j)))) ∧ w.cell? ⟨g, j * 5 + 3, none⟩ = some (.slice A2 (ln (ab (nb (f i j)))) (ln (ab (nb (f i j))))) ∧ w.cell? ⟨g, j * 5 + 4, none⟩ = some (.slice A3 (ln (un (f i j))) (ln (un (f i j))))) ∧ Num3 w A1 A2 A3 (f i j) := by
  obtain ⟨R, K, h1, h2⟩ := h
  obtain ⟨b, fo, e, hl, hc⟩ := h1 i hi
  obtain ⟨g, eg, A1, A2, A3, hcs, hq⟩ := h2 i hi j (by omega)
  exact ⟨b, fo, g, K i, A1, A2, A3, e, hl, by rw [hc, eg, hm], World.block_lt_of_cell? w ⟨g, _, none⟩ hcs.1, hcs, hq⟩
set_option maxRecDepth 100000 in
set_option maxHeartbeats 40000000 in
theorem product_ok (w : World) (A B : Option Addr) (n c nq c2 : Nat) (N M : Nat → Nat) (f g : Nat → Nat → Cx) (hA : MatP w A n N f) (hB : MatP w B nq M g) (hn : n ≤ 1000) (hN : ∀ i, i < n → N i ≤ 1000) (hnq : nq ≤ 1000) (hM : ∀ i, i < nq → M i ≤ 1000)
    (hva : Valid n N) (hvb : Valid nq M) (hE : colN n N = nq) (hS : ∀ i k j, i < n → k < colN nq M → j < nq → sz 100000 (f i j) ∧ sz 100000 (g j k) ∧ sz 300000 (dotC f g i k j)) :
    Calls Tryz.prog 22 #[.slice A n c, .slice B nq c2] w (RetMatE w n (fun _ => colN nq M) fun i k => dotC f g i k nq) := by
  obtain ⟨F, hF⟩ : ∃ F : Nat → Nat → Cx, F = fun i k => dotC f g i k nq := ⟨_, rfl⟩
  rw [← hF]
  have HMA := Lib.hid hA; have HMB := Lib.hid hB
  obtain ⟨R, K, hG, _⟩ := hA
  obtain ⟨R2, K2, hG2, _⟩ := hB
  have hNa := valid_col hva
  rw [hE] at hNa
  have hMb := valid_col hvb
  have hp := col_le hM
  have HC := columns_any w A n c R N K hG hn hN true ⟨fun _ => hva, fun _ => rfl⟩
  have HC2 := Lib.hid (fun w2 (hb : Below w.heap.size w w2) => columns_any w2 B nq c2 R2 M K2 (hG2.to hb) hnq hM true ⟨fun _ => hvb, fun _ => rfl⟩)
  have hz : colN nq M ≠ 0 → 0 < nq := by unfold colN; split <;> omega
  rw [hE] at HC
  generalize colN nq M = m at *
  have HNa := Lib.hid hNa; have HMb := Lib.hid hMb; have HS := Lib.hid hS; have HF := Lib.hid hF; have HZ := Lib.hid hz
  clear hG hG2 hN hM hva hvb hE hNa hMb hS hF hz
  have hmk := mk_nums2 n (by omega)
  have hm_Mul : ∀ (k : Nat) (v1 v2 v3 v4 v5 : Value) (w : World), (method (k + 1) 45 (.agg #[v1, v2, v3, v4, v5]) "Mul").run Tryz.prog w = .ok (19, .agg #[v1, v2, v3, v4, v5]) w := fun _ _ _ _ _ _ _ => by kernel_rfl
  have hm_Add : ∀ (k : Nat) (v1 v2 v3 v4 v5 : Value) (w : World), (method (k + 1) 45 (.agg #[v1, v2, v3, v4, v5]) "Add").run Tryz.prog w = .ok (18, .agg #[v1, v2, v3, v4, v5]) w := fun _ _ _ _ _ _ _ => by kernel_rfl
  have t : ((nq : Int) != (nq : Int)) = false := by rw [bne_eq_false_iff_eq]
  go_enter Tryz.func22, Tryz.ntmps22
  go_wp2_with fail
  refine HC.mono ?_
  rintro e w1 ⟨rfl, hb1⟩
  go_wp2_with fail
  refine (HC2.out w1 hb1).mono ?_
  rintro e w2 ⟨rfl, hb2⟩
  have HB := Lib.hid (hb1.trans (hb2.mono hb1.size))
  clear hb1 hb2 HC HC2
  go_wp2_with fail
  clear hmk t
  have hB0 : BldP w2 w2.heap.size n (fun _ => 0) F (mkS w2 n 28) := BldP.new
  generalize mkS w2 n 28 = W0 at *
  obtain ⟨gO, hgO⟩ : ∃ g, g = w2.heap.size := ⟨_, rfl⟩
  rw [← hgO] at hB0 ⊢
  clear hgO
  replace HMA := Lib.hid (HMA.out.to HB.out); replace HMB := Lib.hid (HMB.out.to HB.out)
  go_loopw [42] (fun i (wr : World) => ∃ k : Nat, k ≤ n ∧ i = .int .i64 k ∧ BldP w2 gO n (fun i => if i < k then m else 0) F wr) (fun i _ => n - (intOf i).toNat)
  case atStart => exact ⟨0, Nat.zero_le _, rfl, by simpa using hB0⟩
  case round =>
    obtain ⟨i, hi, rfl, hB⟩ := hrel
    clear hB0
    by_cases hlt : i < n
    · have hB2 : BldP w2 gO n (fun x => if x < i then m else if x = i then 0 else 0) F wr := by simpa using hB
      clear hB
      go_upto_region 10 with fail
      go_loopw [46] (fun q (wr : World) => ∃ k : Nat, k ≤ m ∧ q = .int .i64 k ∧ BldP w2 gO n (fun x => if x < i then m else if x = i then k else 0) F wr) (fun q _ => m - (intOf q).toNat)
      case atStart => exact ⟨0, Nat.zero_le _, rfl, hB2⟩
      case round =>
        obtain ⟨k, hk, rfl, hB3⟩ := hrel
        clear hB2
        by_cases hlk : k < m
        · have hp0 : 0 < nq := HZ.out (by omega)
          obtain ⟨b, fo, ga, Ka, A1, A2, A3, rfl, ha1, ha2, ha3, ha4, ha5⟩ := (HMA.out.to hB3.fin.2).at hlt hp0 (HNa.out i hlt)
          obtain ⟨b2, fo2, gb, Kb, B1, B2, B3, rfl, hb1, hb2, hb3, hb4, hb5⟩ := (HMB.out.to hB3.fin.2).at hp0 hlk (HMb.out 0 hp0)
          simp only [Nat.add_zero, Nat.zero_mul, Nat.zero_add] at ha4 hb2
          obtain ⟨zx, zy, _⟩ := HS.out i k 0 hlt hlk hp0
          obtain ⟨x, hx⟩ : ∃ x, x = f i 0 := ⟨_, rfl⟩
          obtain ⟨y, hy⟩ : ∃ y, y = g 0 k := ⟨_, rfl⟩
          rw [← hx] at ha4 ha5 zx
          rw [← hy] at hb4 hb5 zy
          have hs1 : dotC f g i k 1 = x.mul y := by rw [hx, hy]; exact zero_add_c _
          have HS1 := Lib.hid hs1
          have i1 : (0 : Int) ≤ (i : Int) := by omega
          have i2 : (i : Int) < (n : Int) := by omega
          have i3 : (0 : Int) ≤ (k : Int) := by omega
          have i4 : (k : Int) < (m : Int) := by omega
          have i5 : (0 : Int) < (nq : Int) := by omega
          have ZZ := Lib.hid (And.intro zx zy)
          have HB3 := Lib.hid hB3
          clear hx hy hs1 zx zy hB3
          go_upto_region 12 with fail
          refine wp_region_any (by kernel_rfl) ?_
          refine wpAny_inv (fun l a' w' => ∃ V : Nat → Value, ∃ x13 x14 : Value, a' = ⟨List.toArray (.slice (some ⟨b, fo, none⟩) n c :: .slice (some ⟨b2, fo2, none⟩) nq c2 :: undef :: undef :: .slice none 0 0 :: .int .i64 0 :: .int .i64 ↑nq :: .bool true :: .int .i64 ↑m :: .bool true :: .slice (some ⟨gO, 0, none⟩) n n :: .int .i64 ↑i :: .int .i64 ↑k :: x14 :: u14 :: .tuple #[.int .i64 ↑nq, .bool true] :: .slice (some ⟨b, fo, none⟩) n c :: .tuple #[.int .i64 ↑nq, .bool true] :: .int .i64 ↑nq :: .bool true :: .tuple #[.int .i64 ↑m, .bool true] :: .slice (some ⟨b2, fo2, none⟩) nq c2 :: .tuple #[.int .i64 ↑m, .bool true] :: .int .i64 ↑m :: .bool true :: .bool true :: .bool false :: .bool false :: .bool true :: .bool false :: .bool false :: .bool false :: .int .i64 ↑nq :: .slice (some ⟨b2, fo2, none⟩) nq c2 :: .int .i64 ↑nq :: .bool false :: .bool false :: .slice (some ⟨b, fo, none⟩) n c :: .int .i64 ↑n :: .slice (some ⟨gO, 0, none⟩) n n :: .slice (some ⟨gO, 0, none⟩) n n :: .int .i64 ↑n :: .int .i64 ↑i :: .bool true :: .int .i64 ↑i :: .int .i64 ↑m :: .int .i64 ↑k :: .bool true :: .int .i64 ↑k :: V 0 :: V 1 :: V 2 :: V 3 :: V 4 :: V 5 :: V 6 :: V 7 :: V 8 :: V 9 :: V 10 :: V 11 :: V 12 :: x13 :: u63 :: u64 :: u65 :: u66 :: u67 :: u68 :: u69 :: u70 :: u71 :: u72 :: u73 :: u74 :: u75 :: u76 :: u77 :: u78 :: u79 :: u80 :: u81 :: u82 :: u83 :: u84 :: u85 :: u86 :: u87 :: u88 :: u89 :: u90 :: u91 :: u92 :: u93 :: u94 :: u95 :: u96 :: u97 :: u98 :: undef :: []), []⟩ ∧ OnFix l V (fun zz => List.getD [.slice (some ⟨b, fo, none⟩) n c, .int .i64 i, .pointer (some ⟨b, fo + i, none⟩), .slice (some ⟨ga, 0, none⟩) nq Ka, .pointer (some ⟨ga, 0, none⟩), .agg #[.bool (sn (na x)), .slice A1 (ln (ab (na x))) (ln (ab (na x))), .bool (sn (nb x)), .slice A2 (ln (ab (nb x))) (ln (ab (nb x))), .slice A3 (ln (un x)) (ln (un x))], .iface 45 (.agg #[.bool (sn (na x)), .slice A1 (ln (ab (na x))) (ln (ab (na x))), .bool (sn (nb x)), .slice A2 (ln (ab (nb x))) (ln (ab (nb x))), .slice A3 (ln (un x)) (ln (un x))]), .slice (some ⟨b2, fo2, none⟩) nq c2, .pointer (some ⟨b2, fo2, none⟩), .slice (some ⟨gb, 0, none⟩) m Kb, .int .i64 k, .pointer (some ⟨gb, k * 5, none⟩), .agg #[.bool (sn (na y)), .slice B1 (ln (ab (na y))) (ln (ab (na y))), .bool (sn (nb y)), .slice B2 (ln (ab (nb y))) (ln (ab (nb y))), .slice B3 (ln (un y)) (ln (un y))], undef, undef, undef] zz undef) [0, 1, 2, 3, 4, 5, 6, 7, 8, 9, 10, 11, 12] ∧ Off l 15 (Below wr.heap.size wr w' ∧ On l 13 (SlotNum w' x13 (x.mul y)) ∧ On l 14 (AtV wr.heap.size w' x14)) ∧ On l 15 (∃ gs, x14 = .pointer (some ⟨gs, 0, none⟩) ∧ wr.heap.size ≤ gs ∧ HasP w' gs (x.mul y) ∧ Below wr.heap.size wr w') ∧ Edg l [(15, 13), (13, 6), (6, 5), (5, 4), (4, 3), (13, 12), (12, 11), (11, 9), (15, 14)] ∧ l.size = 16) ?_ ?_ _ _ _ _ (by decide) ?_
          · intro l a' W' i hi hI
            obtain ⟨V, x13, x14, rfl, hv, hZ, hM0, hE, hz⟩ := hI
            obtain ⟨hlt, hoff, hpre⟩ := ready_pre hi
            have hc : i ∈ [0, 1, 2, 3, 4, 5, 6, 7, 8, 9, 10, 11, 12, 13, 14, 15] := (by decide : ∀ i, i < 16 → i ∈ [0, 1, 2, 3, 4, 5, 6, 7, 8, 9, 10, 11, 12, 13, 14, 15]) i hlt
            simp only [List.mem_cons, List.not_mem_nil, or_false] at hc
            clear hi hlt
            rcases hc with rfl | rfl | rfl | rfl | rfl | rfl | rfl | rfl | rfl | rfl | rfl | rfl | rfl | rfl | rfl | rfl <;> (have hp := hpre _ rfl; simp [Region.binds] at hp; clear hpre)
            · skip
              have HV := Lib.hid hv
              clear hv
              refine wpOp_go rfl rfl (fun K hK => ?_)
              go_simp
              refine hK _ _ ?_
              exact ⟨_, _, _, rfl, HV.out.new (x := .slice (some ⟨b, fo, none⟩) n c) rfl, hZ.keep.map (fun ⟨hb0, y13, y14⟩ => ⟨hb0, y13.keep (by decide), y14.keep (by decide)⟩), hM0.keep (by decide), hE.mono (by decide), by simp [hz]⟩
            · skip
              have HV := Lib.hid hv
              clear hv
              refine wpOp_go rfl rfl (fun K hK => ?_)
              go_simp
              refine hK _ _ ?_
              exact ⟨_, _, _, rfl, HV.out.new (x := .int .i64 i) rfl, hZ.keep.map (fun ⟨hb0, y13, y14⟩ => ⟨hb0, y13.keep (by decide), y14.keep (by decide)⟩), hM0.keep (by decide), hE.mono (by decide), by simp [hz]⟩
            · skip
              have e0 : V 0 = .slice (some ⟨b, fo, none⟩) n c := hv.get 0 (by decide) (by simp [hp])
              have e1 : V 1 = .int .i64 i := hv.get 1 (by decide) (by simp [hp])
              have HV := Lib.hid ((hv.fixE e0 rfl).fixE e1 rfl)
              clear hv
              simp only [e0, e1]
              refine wpOp_go rfl rfl (fun K hK => ?_)
              go_simp
              refine hK _ _ ?_
              exact ⟨_, _, _, rfl, HV.out.new (x := .pointer (some ⟨b, fo + i, none⟩)) rfl, hZ.keep.map (fun ⟨hb0, y13, y14⟩ => ⟨hb0, y13.keep (by decide), y14.keep (by decide)⟩), hM0.keep (by decide), hE.mono (by decide), by simp [hz]⟩
            · skip
              have e2 : V 2 = .pointer (some ⟨b, fo + i, none⟩) := hv.get 2 (by decide) (by simp [hp])
              have HV := Lib.hid (hv.fixE e2 rfl)
              clear hv
              simp only [e2]
              have hY := hZ.get (fun h => off hoff (hE.get 4 3 (by decide) (hE.get 5 4 (by decide) (hE.get 6 5 (by decide) (hE.get 13 6 (by decide) (hE.get 15 13 (by decide) h))))))
              have z := keepc hY.1 ha2 ha1
              refine wpOp_go rfl rfl (fun K hK => ?_)
              go_simp
              refine hK _ _ ?_
              exact ⟨_, _, _, rfl, HV.out.new (x := .slice (some ⟨ga, 0, none⟩) nq Ka) rfl, hZ.keep.map (fun ⟨hb0, y13, y14⟩ => ⟨hb0, y13.keep (by decide), y14.keep (by decide)⟩), hM0.keep (by decide), hE.mono (by decide), by simp [hz]⟩
            · skip
              have e3 : V 3 = .slice (some ⟨ga, 0, none⟩) nq Ka := hv.get 3 (by decide) (by simp [hp])
              have HV := Lib.hid (hv.fixE e3 rfl)
              clear hv
              simp only [e3]
              refine wpOp_go rfl rfl (fun K hK => ?_)
              go_simp
              refine hK _ _ ?_
              exact ⟨_, _, _, rfl, HV.out.new (x := .pointer (some ⟨ga, 0, none⟩)) rfl, hZ.keep.map (fun ⟨hb0, y13, y14⟩ => ⟨hb0, y13.keep (by decide), y14.keep (by decide)⟩), hM0.keep (by decide), hE.step (by simp [hp]), by simp [hz]⟩
            · skip
              have e4 : V 4 = .pointer (some ⟨ga, 0, none⟩) := hv.get 4 (by decide) (by simp [hp])
              have HV := Lib.hid (hv.fixE e4 rfl)
              clear hv
              simp only [e4]
              have hY := hZ.get (fun h => off hoff (hE.get 6 5 (by decide) (hE.get 13 6 (by decide) (hE.get 15 13 (by decide) h))))
              obtain ⟨z0, z1, z2, z3, z4⟩ := ha4
              have y0 := keepc hY.1 z0 ha3; have y1 := keepc hY.1 z1 ha3; have y2 := keepc hY.1 z2 ha3; have y3 := keepc hY.1 z3 ha3; have y4 := keepc hY.1 z4 ha3
              refine wpOp_go rfl rfl (fun K hK => ?_)
              go_simp
              refine hK _ _ ?_
              exact ⟨_, _, _, rfl, HV.out.new (x := .agg #[.bool (sn (na x)), .slice A1 (ln (ab (na x))) (ln (ab (na x))), .bool (sn (nb x)), .slice A2 (ln (ab (nb x))) (ln (ab (nb x))), .slice A3 (ln (un x)) (ln (un x))]) rfl, hZ.keep.map (fun ⟨hb0, y13, y14⟩ => ⟨hb0, y13.keep (by decide), y14.keep (by decide)⟩), hM0.keep (by decide), hE.step (by simp [hp]), by simp [hz]⟩
            · skip
              have e5 : V 5 = .agg #[.bool (sn (na x)), .slice A1 (ln (ab (na x))) (ln (ab (na x))), .bool (sn (nb x)), .slice A2 (ln (ab (nb x))) (ln (ab (nb x))), .slice A3 (ln (un x)) (ln (un x))] := hv.get 5 (by decide) (by simp [hp])
              have HV := Lib.hid (hv.fixE e5 rfl)
              clear hv
              simp only [e5]
              refine wpOp_go rfl rfl (fun K hK => ?_)
              go_simp
              refine hK _ _ ?_
              exact ⟨_, _, _, rfl, HV.out.new (x := .iface 45 (.agg #[.bool (sn (na x)), .slice A1 (ln (ab (na x))) (ln (ab (na x))), .bool (sn (nb x)), .slice A2 (ln (ab (nb x))) (ln (ab (nb x))), .slice A3 (ln (un x)) (ln (un x))])) rfl, hZ.keep.map (fun ⟨hb0, y13, y14⟩ => ⟨hb0, y13.keep (by decide), y14.keep (by decide)⟩), hM0.keep (by decide), hE.step (by simp [hp]), by simp [hz]⟩
            · skip
              have HV := Lib.hid hv
              clear hv
              refine wpOp_go rfl rfl (fun K hK => ?_)
              go_simp
              refine hK _ _ ?_
              exact ⟨_, _, _, rfl, HV.out.new (x := .slice (some ⟨b2, fo2, none⟩) nq c2) rfl, hZ.keep.map (fun ⟨hb0, y13, y14⟩ => ⟨hb0, y13.keep (by decide), y14.keep (by decide)⟩), hM0.keep (by decide), hE.mono (by decide), by simp [hz]⟩
            · skip
              have e7 : V 7 = .slice (some ⟨b2, fo2, none⟩) nq c2 := hv.get 7 (by decide) (by simp [hp])
              have HV := Lib.hid (hv.fixE e7 rfl)
              clear hv
              simp only [e7]
              refine wpOp_go rfl rfl (fun K hK => ?_)
              go_simp
              refine hK _ _ ?_
              exact ⟨_, _, _, rfl, HV.out.new (x := .pointer (some ⟨b2, fo2, none⟩)) rfl, hZ.keep.map (fun ⟨hb0, y13, y14⟩ => ⟨hb0, y13.keep (by decide), y14.keep (by decide)⟩), hM0.keep (by decide), hE.mono (by decide), by simp [hz]⟩
            · skip
              have e8 : V 8 = .pointer (some ⟨b2, fo2, none⟩) := hv.get 8 (by decide) (by simp [hp])
              have HV := Lib.hid (hv.fixE e8 rfl)
              clear hv
              simp only [e8]
              have hY := hZ.get (fun h => off hoff (hE.get 11 9 (by decide) (hE.get 12 11 (by decide) (hE.get 13 12 (by decide) (hE.get 15 13 (by decide) h)))))
              have z := keepc hY.1 hb2 hb1
              refine wpOp_go rfl rfl (fun K hK => ?_)
              go_simp
              refine hK _ _ ?_
              exact ⟨_, _, _, rfl, HV.out.new (x := .slice (some ⟨gb, 0, none⟩) m Kb) rfl, hZ.keep.map (fun ⟨hb0, y13, y14⟩ => ⟨hb0, y13.keep (by decide), y14.keep (by decide)⟩), hM0.keep (by decide), hE.mono (by decide), by simp [hz]⟩
            · skip
              have HV := Lib.hid hv
              clear hv
              refine wpOp_go rfl rfl (fun K hK => ?_)
              go_simp
              refine hK _ _ ?_
              exact ⟨_, _, _, rfl, HV.out.new (x := .int .i64 k) rfl, hZ.keep.map (fun ⟨hb0, y13, y14⟩ => ⟨hb0, y13.keep (by decide), y14.keep (by decide)⟩), hM0.keep (by decide), hE.mono (by decide), by simp [hz]⟩
            · skip
              have e9 : V 9 = .slice (some ⟨gb, 0, none⟩) m Kb := hv.get 9 (by decide) (by simp [hp])
              have e10 : V 10 = .int .i64 k := hv.get 10 (by decide) (by simp [hp])
              have HV := Lib.hid ((hv.fixE e9 rfl).fixE e10 rfl)
              clear hv
              simp only [e9, e10]
              refine wpOp_go rfl rfl (fun K hK => ?_)
              go_simp
              refine hK _ _ ?_
              exact ⟨_, _, _, rfl, HV.out.new (x := .pointer (some ⟨gb, k * 5, none⟩)) rfl, hZ.keep.map (fun ⟨hb0, y13, y14⟩ => ⟨hb0, y13.keep (by decide), y14.keep (by decide)⟩), hM0.keep (by decide), hE.step (by simp [hp]), by simp [hz]⟩
            · skip
              have e11 : V 11 = .pointer (some ⟨gb, k * 5, none⟩) := hv.get 11 (by decide) (by simp [hp])
              have HV := Lib.hid (hv.fixE e11 rfl)
              clear hv
              simp only [e11]
              have hY := hZ.get (fun h => off hoff (hE.get 13 12 (by decide) (hE.get 15 13 (by decide) h)))
              obtain ⟨z0, z1, z2, z3, z4⟩ := hb4
              have y0 := keepc hY.1 z0 hb3; have y1 := keepc hY.1 z1 hb3; have y2 := keepc hY.1 z2 hb3; have y3 := keepc hY.1 z3 hb3; have y4 := keepc hY.1 z4 hb3
              refine wpOp_go rfl rfl (fun K hK => ?_)
              go_simp
              refine hK _ _ ?_
              exact ⟨_, _, _, rfl, HV.out.new (x := .agg #[.bool (sn (na y)), .slice B1 (ln (ab (na y))) (ln (ab (na y))), .bool (sn (nb y)), .slice B2 (ln (ab (nb y))) (ln (ab (nb y))), .slice B3 (ln (un y)) (ln (un y))]) rfl, hZ.keep.map (fun ⟨hb0, y13, y14⟩ => ⟨hb0, y13.keep (by decide), y14.keep (by decide)⟩), hM0.keep (by decide), hE.step (by simp [hp]), by simp [hz]⟩
            · skip
              have e6 : V 6 = .iface 45 (.agg #[.bool (sn (na x)), .slice A1 (ln (ab (na x))) (ln (ab (na x))), .bool (sn (nb x)), .slice A2 (ln (ab (nb x))) (ln (ab (nb x))), .slice A3 (ln (un x)) (ln (un x))]) := hv.get 6 (by decide) (by simp [hp])
              have e12 : V 12 = .agg #[.bool (sn (na y)), .slice B1 (ln (ab (na y))) (ln (ab (na y))), .bool (sn (nb y)), .slice B2 (ln (ab (nb y))) (ln (ab (nb y))), .slice B3 (ln (un y)) (ln (un y))] := hv.get 12 (by decide) (by simp [hp])
              have HV := Lib.hid ((hv.fixE e6 rfl).fixE e12 rfl)
              clear hv
              simp only [e6, e12]
              have hY := hZ.get (fun h => off hoff (hE.get 15 13 (by decide) h))
              refine wpOp_go rfl rfl (fun K hK => ?_)
              go_wp2_with (first | (go_at_call 19; refine (mul_num x y A1 A2 A3 B1 B2 B3 _ (ha5.to hY.1) (hb5.to hY.1) (ZZ.out.1.mono (by decide)) (ZZ.out.2.mono (by decide))).mono ?_; rintro e w3 ⟨E1, E2, E3, rfl, hN, hb⟩))
              try refine hK _ _ ?_
              exact ⟨_, _, _, rfl, HV.out.other (by decide), Off.new ⟨hY.1.trans (hb.mono hY.1.size), On.new (⟨E1, E2, E3, rfl, hN⟩), ((hY.2.2).keep (by decide)).map (fun h => h.to hb)⟩, fun h => absurd (hE.get 15 13 (by decide) (on_ne h (by decide))) (off hoff), hE.step (by simp [hp]), by simp [hz]⟩
            · skip
              have HV := Lib.hid hv
              clear hv
              have hY := hZ.get (fun h => off hoff (hE.get 15 14 (by decide) h))
              refine wpOp_go rfl rfl (fun K hK => ?_)
              go_simp
              refine hK _ _ ?_
              exact ⟨_, _, _, rfl, HV.out.other (by decide), Off.new ⟨hY.1.trans ((((Below.refl _ _).alloc (Nat.le_refl _) _)).mono hY.1.size), ((hY.2.1).keep (by decide)).map (fun h => h.to ((Below.refl _ _).alloc (Nat.le_refl _) _)), On.new (AtV.new hY.1.size)⟩, fun h => absurd (hE.get 15 14 (by decide) (on_ne h (by decide))) (off hoff), hE.mono (by decide), by simp [hz]⟩
            · skip
              have HV := Lib.hid hv
              clear hv
              have hY := hZ.get (off hoff)
              obtain ⟨E1, E2, E3, e1, hN⟩ := hY.2.1.get (by simp [hp])
              subst e1
              obtain ⟨gs, e2, hgs, hv5⟩ := hY.2.2.get (by simp [hp])
              subst e2
              have hv6 := hv5
              obtain ⟨_, ⟨cc, u1, u2, u3, u4, d0, d1, d2, d3, d4⟩, ⟨f0, f1, f2, f3, f4⟩⟩ := hv5
              refine wpOp_go rfl rfl (fun K hK => ?_)
              go_simp
              refine hK _ _ ?_
              obtain ⟨XX, hX⟩ : ∃ XX : World, XX = set5 W' gs (x.mul y) E1 E2 E3 := ⟨_, rfl⟩
              have hw : set5 W' gs (x.mul y) E1 E2 E3 = XX := hX.symm
              unfold set5 at hw
              rw [hw]
              subst hX
              exact ⟨_, _, _, rfl, HV.out.other (by decide), Off.done (by omega), On.new (⟨gs, rfl, hgs, hv6.putP hN, set5_below hY.1 hgs⟩), hE.step (by simp [hp]), by simp [hz]⟩
          · intro l a' W' hr hI
            obtain ⟨V, x13, x14, rfl, hv, hZ, hM0, hE, hz⟩ := hI
            have a0 := not_ready (i := 0) hr hz rfl (by simp [Region.binds])
            have a1 := not_ready (i := 1) hr hz rfl (by simp [Region.binds, a0])
            have a2 := not_ready (i := 2) hr hz rfl (by simp [Region.binds, a0, a1])
            have a3 := not_ready (i := 3) hr hz rfl (by simp [Region.binds, a0, a1, a2])
            have a4 := not_ready (i := 4) hr hz rfl (by simp [Region.binds, a0, a1, a2, a3])
            have a5 := not_ready (i := 5) hr hz rfl (by simp [Region.binds, a0, a1, a2, a3, a4])
            have a6 := not_ready (i := 6) hr hz rfl (by simp [Region.binds, a0, a1, a2, a3, a4, a5])
            have a7 := not_ready (i := 7) hr hz rfl (by simp [Region.binds, a0, a1, a2, a3, a4, a5, a6])
            have a8 := not_ready (i := 8) hr hz rfl (by simp [Region.binds, a0, a1, a2, a3, a4, a5, a6, a7])
            have a9 := not_ready (i := 9) hr hz rfl (by simp [Region.binds, a0, a1, a2, a3, a4, a5, a6, a7, a8])
            have a10 := not_ready (i := 10) hr hz rfl (by simp [Region.binds, a0, a1, a2, a3, a4, a5, a6, a7, a8, a9])
            have a11 := not_ready (i := 11) hr hz rfl (by simp [Region.binds, a0, a1, a2, a3, a4, a5, a6, a7, a8, a9, a10])
            have a12 := not_ready (i := 12) hr hz rfl (by simp [Region.binds, a0, a1, a2, a3, a4, a5, a6, a7, a8, a9, a10, a11])
            have a13 := not_ready (i := 13) hr hz rfl (by simp [Region.binds, a0, a1, a2, a3, a4, a5, a6, a7, a8, a9, a10, a11, a12])
            have a14 := not_ready (i := 14) hr hz rfl (by simp [Region.binds, a0, a1, a2, a3, a4, a5, a6, a7, a8, a9, a10, a11, a12, a13])
            have a15 := not_ready (i := 15) hr hz rfl (by simp [Region.binds, a0, a1, a2, a3, a4, a5, a6, a7, a8, a9, a10, a11, a12, a13, a14])
            have hY := hM0.get a15
            clear hr hz hv hZ a0 a1 a2 a3 a4 a5 a6 a7 a8 a9 a10 a11 a12 a13 a14 a15 hM0 hE
            go_wp2_with fail
            obtain ⟨gs, rfl, hgs, hvs, hbs⟩ := hY
            rw [← HS1.out] at hvs
            obtain ⟨Wb, hWb⟩ : ∃ W : World, W = wr := ⟨_, rfl⟩
            rw [← hWb] at HB3 hgs hbs
            clear ha1 ha2 ha3 ha4 ha5 hb1 hb2 hb3 hb4 hb5 hWb HS1 ZZ i5
            go_loopw [14] (fun q (wr : World) => ∃ j : Nat, 1 ≤ j ∧ j ≤ nq ∧ q = .int .i64 j ∧ HasP wr gs (dotC f g i k j) ∧ Below Wb.heap.size Wb wr) (fun q _ => nq - (intOf q).toNat)
            case atStart => exact ⟨1, Nat.le_refl _, hp0, rfl, hvs, hbs⟩
            case round =>
              obtain ⟨j, hj1, hj, rfl, hvj, hbj⟩ := hrel
              clear hvs hbs
              have hBw := HB3.out.fin.2
              have hbw : Below w2.heap.size w2 wr := hBw.trans (hbj.mono hBw.size)
              by_cases hlj : j < nq
              · obtain ⟨b', fo', ga', Ka', A1', A2', A3', eA, ha1, ha2, ha3, ha4, ha5⟩ := (HMA.out.to hbw).at hlt hlj (HNa.out i hlt)
                injection eA with eA; injection eA with eA1 eA2; subst eA1 eA2
                obtain ⟨b2', fo2', gb', Kb', B1', B2', B3', eB, hb1, hb2, hb3, hb4, hb5⟩ := (HMB.out.to hbw).at hlj hlk (HMb.out j hlj)
                injection eB with eB; injection eB with eB1 eB2; subst eB1 eB2
                obtain ⟨zx, zy, zs⟩ := HS.out i k j hlt hlk hlj
                have hs1 : dotC f g i k (j + 1) = (dotC f g i k j).add ((f i j).mul (g j k)) := rfl
                obtain ⟨x', hx⟩ : ∃ x, x = f i j := ⟨_, rfl⟩
                obtain ⟨y', hy⟩ : ∃ y, y = g j k := ⟨_, rfl⟩
                obtain ⟨s, hs⟩ : ∃ s, s = dotC f g i k j := ⟨_, rfl⟩
                rw [← hx] at ha4 ha5 zx
                rw [← hy] at hb4 hb5 zy
                rw [← hs] at hvj zs
                rw [← hs, ← hx, ← hy] at hs1
                have HS1 := Lib.hid hs1
                have ZZ := Lib.hid (And.intro zs (sz_mul zx zy))
                have Z2 := Lib.hid (And.intro zx zy)
                have j1 : (0 : Int) ≤ (j : Int) := by omega
                have j2 : (j : Int) < (nq : Int) := by omega
                obtain ⟨S1, S2, S3, hsc, hsn⟩ := hvj.slot
                have hls := hvj.1
                have HBJ := Lib.hid hbj
                clear hx hy hs hs1 zx zy zs hbw hBw hbj
                go_upto_region 16 with fail
                refine wp_region_any (by kernel_rfl) ?_
                refine wpAny_inv (fun l a' w' => ∃ V2 : Nat → Value, ∃ x17 x18 : Value, a' = ⟨List.toArray (.slice (some ⟨b, fo, none⟩) n c :: .slice (some ⟨b2, fo2, none⟩) nq c2 :: undef :: undef :: .slice none 0 0 :: .int .i64 0 :: .int .i64 ↑nq :: .bool true :: .int .i64 ↑m :: .bool true :: .slice (some ⟨gO, 0, none⟩) n n :: .int .i64 ↑i :: .int .i64 ↑k :: .pointer (some ⟨gs, 0, none⟩) :: .int .i64 ↑j :: .tuple #[.int .i64 ↑nq, .bool true] :: .slice (some ⟨b, fo, none⟩) n c :: .tuple #[.int .i64 ↑nq, .bool true] :: .int .i64 ↑nq :: .bool true :: .tuple #[.int .i64 ↑m, .bool true] :: .slice (some ⟨b2, fo2, none⟩) nq c2 :: .tuple #[.int .i64 ↑m, .bool true] :: .int .i64 ↑m :: .bool true :: .bool true :: .bool false :: .bool false :: .bool true :: .bool false :: .bool false :: .bool false :: .int .i64 ↑nq :: .slice (some ⟨b2, fo2, none⟩) nq c2 :: .int .i64 ↑nq :: .bool false :: .bool false :: .slice (some ⟨b, fo, none⟩) n c :: .int .i64 ↑n :: .slice (some ⟨gO, 0, none⟩) n n :: .slice (some ⟨gO, 0, none⟩) n n :: .int .i64 ↑n :: .int .i64 ↑i :: .bool true :: .int .i64 ↑i :: .int .i64 ↑m :: .int .i64 ↑k :: .bool true :: .int .i64 ↑k :: V 0 :: V 1 :: V 2 :: V 3 :: V 4 :: V 5 :: V 6 :: V 7 :: V 8 :: V 9 :: V 10 :: V 11 :: V 12 :: x13 :: .int .i64 ↑j :: .int .i64 ↑nq :: .bool true :: u66 :: u67 :: V2 0 :: V2 1 :: V2 2 :: V2 3 :: V2 4 :: V2 5 :: V2 6 :: V2 7 :: V2 8 :: V2 9 :: V2 10 :: V2 11 :: V2 12 :: V2 13 :: V2 14 :: V2 15 :: V2 16 :: x17 :: x18 :: u87 :: u88 :: u89 :: u90 :: u91 :: u92 :: u93 :: u94 :: u95 :: u96 :: u97 :: u98 :: undef :: []), []⟩ ∧ OnFix l V2 (fun zz => List.getD [.agg #[.bool (sn (na s)), .slice S1 (ln (ab (na s))) (ln (ab (na s))), .bool (sn (nb s)), .slice S2 (ln (ab (nb s))) (ln (ab (nb s))), .slice S3 (ln (un s)) (ln (un s))], .iface 45 (.agg #[.bool (sn (na s)), .slice S1 (ln (ab (na s))) (ln (ab (na s))), .bool (sn (nb s)), .slice S2 (ln (ab (nb s))) (ln (ab (nb s))), .slice S3 (ln (un s)) (ln (un s))]), .slice (some ⟨b, fo, none⟩) n c, .int .i64 i, .pointer (some ⟨b, fo + i, none⟩), .slice (some ⟨ga', 0, none⟩) nq Ka', .int .i64 j, .pointer (some ⟨ga', j * 5, none⟩), .agg #[.bool (sn (na x')), .slice A1' (ln (ab (na x'))) (ln (ab (na x'))), .bool (sn (nb x')), .slice A2' (ln (ab (nb x'))) (ln (ab (nb x'))), .slice A3' (ln (un x')) (ln (un x'))], .iface 45 (.agg #[.bool (sn (na x')), .slice A1' (ln (ab (na x'))) (ln (ab (na x'))), .bool (sn (nb x')), .slice A2' (ln (ab (nb x'))) (ln (ab (nb x'))), .slice A3' (ln (un x')) (ln (un x'))]), .slice (some ⟨b2, fo2, none⟩) nq c2, .int .i64 j, .pointer (some ⟨b2, fo2 + j, none⟩), .slice (some ⟨gb', 0, none⟩) m Kb', .int .i64 k, .pointer (some ⟨gb', k * 5, none⟩), .agg #[.bool (sn (na y')), .slice B1' (ln (ab (na y'))) (ln (ab (na y'))), .bool (sn (nb y')), .slice B2' (ln (ab (nb y'))) (ln (ab (nb y'))), .slice B3' (ln (un y')) (ln (un y'))], undef, undef, undef] zz undef) [0, 1, 2, 3, 4, 5, 6, 7, 8, 9, 10, 11, 12, 13, 14, 15, 16] ∧ Off l 19 (Below wr.heap.size wr w' ∧ On l 17 (SlotNum w' x17 (x'.mul y')) ∧ On l 18 (SlotNum w' x18 (s.add (x'.mul y')))) ∧ On l 19 (HasP w' gs (s.add (x'.mul y')) ∧ Below Wb.heap.size Wb w') ∧ Edg l [(19, 18), (18, 1), (1, 0), (18, 17), (17, 9), (9, 8), (8, 7), (7, 5), (17, 16), (16, 15), (15, 13)] ∧ l.size = 20) ?_ ?_ _ _ _ _ (by decide) ?_
                · intro l a' W' i hi hI
                  obtain ⟨V2, x17, x18, rfl, hv, hZ, hM0, hE, hz⟩ := hI
                  obtain ⟨hlt, hoff, hpre⟩ := ready_pre hi
                  have hc : i ∈ [0, 1, 2, 3, 4, 5, 6, 7, 8, 9, 10, 11, 12, 13, 14, 15, 16, 17, 18, 19] := (by decide : ∀ i, i < 20 → i ∈ [0, 1, 2, 3, 4, 5, 6, 7, 8, 9, 10, 11, 12, 13, 14, 15, 16, 17, 18, 19]) i hlt
                  simp only [List.mem_cons, List.not_mem_nil, or_false] at hc
                  clear hi hlt
                  rcases hc with rfl | rfl | rfl | rfl | rfl | rfl | rfl | rfl | rfl | rfl | rfl | rfl | rfl | rfl | rfl | rfl | rfl | rfl | rfl | rfl <;> (have hp := hpre _ rfl; simp [Region.binds] at hp; clear hpre)
                  · skip
                    have HV := Lib.hid hv
                    clear hv
                    have hY := hZ.get (fun h => off hoff (hE.get 1 0 (by decide) (hE.get 18 1 (by decide) (hE.get 19 18 (by decide) h))))
                    obtain ⟨z0, z1, z2, z3, z4⟩ := hsc
                    have y0 := keepc hY.1 z0 hls; have y1 := keepc hY.1 z1 hls; have y2 := keepc hY.1 z2 hls; have y3 := keepc hY.1 z3 hls; have y4 := keepc hY.1 z4 hls
                    refine wpOp_go rfl rfl (fun K hK => ?_)
                    go_simp
                    refine hK _ _ ?_
                    exact ⟨_, _, _, rfl, HV.out.new (x := .agg #[.bool (sn (na s)), .slice S1 (ln (ab (na s))) (ln (ab (na s))), .bool (sn (nb s)), .slice S2 (ln (ab (nb s))) (ln (ab (nb s))), .slice S3 (ln (un s)) (ln (un s))]) rfl, hZ.keep.map (fun ⟨hb0, y17, y18⟩ => ⟨hb0, y17.keep (by decide), y18.keep (by decide)⟩), hM0.keep (by decide), hE.mono (by decide), by simp [hz]⟩
                  · skip
                    have e0 : V2 0 = .agg #[.bool (sn (na s)), .slice S1 (ln (ab (na s))) (ln (ab (na s))), .bool (sn (nb s)), .slice S2 (ln (ab (nb s))) (ln (ab (nb s))), .slice S3 (ln (un s)) (ln (un s))] := hv.get 0 (by decide) (by simp [hp])
                    have HV := Lib.hid (hv.fixE e0 rfl)
                    clear hv
                    simp only [e0]
                    refine wpOp_go rfl rfl (fun K hK => ?_)
                    go_simp
                    refine hK _ _ ?_
                    exact ⟨_, _, _, rfl, HV.out.new (x := .iface 45 (.agg #[.bool (sn (na s)), .slice S1 (ln (ab (na s))) (ln (ab (na s))), .bool (sn (nb s)), .slice S2 (ln (ab (nb s))) (ln (ab (nb s))), .slice S3 (ln (un s)) (ln (un s))])) rfl, hZ.keep.map (fun ⟨hb0, y17, y18⟩ => ⟨hb0, y17.keep (by decide), y18.keep (by decide)⟩), hM0.keep (by decide), hE.step (by simp [hp]), by simp [hz]⟩
                  · skip
                    have HV := Lib.hid hv
                    clear hv
                    refine wpOp_go rfl rfl (fun K hK => ?_)
                    go_simp
                    refine hK _ _ ?_
                    exact ⟨_, _, _, rfl, HV.out.new (x := .slice (some ⟨b, fo, none⟩) n c) rfl, hZ.keep.map (fun ⟨hb0, y17, y18⟩ => ⟨hb0, y17.keep (by decide), y18.keep (by decide)⟩), hM0.keep (by decide), hE.mono (by decide), by simp [hz]⟩
                  · skip
                    have HV := Lib.hid hv
                    clear hv
                    refine wpOp_go rfl rfl (fun K hK => ?_)
                    go_simp
                    refine hK _ _ ?_
                    exact ⟨_, _, _, rfl, HV.out.new (x := .int .i64 i) rfl, hZ.keep.map (fun ⟨hb0, y17, y18⟩ => ⟨hb0, y17.keep (by decide), y18.keep (by decide)⟩), hM0.keep (by decide), hE.mono (by decide), by simp [hz]⟩
                  · skip
                    have e2 : V2 2 = .slice (some ⟨b, fo, none⟩) n c := hv.get 2 (by decide) (by simp [hp])
                    have e3 : V2 3 = .int .i64 i := hv.get 3 (by decide) (by simp [hp])
                    have HV := Lib.hid ((hv.fixE e2 rfl).fixE e3 rfl)
                    clear hv
                    simp only [e2, e3]
                    refine wpOp_go rfl rfl (fun K hK => ?_)
                    go_simp
                    refine hK _ _ ?_
                    exact ⟨_, _, _, rfl, HV.out.new (x := .pointer (some ⟨b, fo + i, none⟩)) rfl, hZ.keep.map (fun ⟨hb0, y17, y18⟩ => ⟨hb0, y17.keep (by decide), y18.keep (by decide)⟩), hM0.keep (by decide), hE.mono (by decide), by simp [hz]⟩
                  · skip
                    have e4 : V2 4 = .pointer (some ⟨b, fo + i, none⟩) := hv.get 4 (by decide) (by simp [hp])
                    have HV := Lib.hid (hv.fixE e4 rfl)
                    clear hv
                    simp only [e4]
                    have hY := hZ.get (fun h => off hoff (hE.get 7 5 (by decide) (hE.get 8 7 (by decide) (hE.get 9 8 (by decide) (hE.get 17 9 (by decide) (hE.get 18 17 (by decide) (hE.get 19 18 (by decide) h)))))))
                    have z := keepc hY.1 ha2 ha1
                    refine wpOp_go rfl rfl (fun K hK => ?_)
                    go_simp
                    refine hK _ _ ?_
                    exact ⟨_, _, _, rfl, HV.out.new (x := .slice (some ⟨ga', 0, none⟩) nq Ka') rfl, hZ.keep.map (fun ⟨hb0, y17, y18⟩ => ⟨hb0, y17.keep (by decide), y18.keep (by decide)⟩), hM0.keep (by decide), hE.mono (by decide), by simp [hz]⟩
                  · skip
                    have HV := Lib.hid hv
                    clear hv
                    refine wpOp_go rfl rfl (fun K hK => ?_)
                    go_simp
                    refine hK _ _ ?_
                    exact ⟨_, _, _, rfl, HV.out.new (x := .int .i64 j) rfl, hZ.keep.map (fun ⟨hb0, y17, y18⟩ => ⟨hb0, y17.keep (by decide), y18.keep (by decide)⟩), hM0.keep (by decide), hE.mono (by decide), by simp [hz]⟩
                  · skip
                    have e5 : V2 5 = .slice (some ⟨ga', 0, none⟩) nq Ka' := hv.get 5 (by decide) (by simp [hp])
                    have e6 : V2 6 = .int .i64 j := hv.get 6 (by decide) (by simp [hp])
                    have HV := Lib.hid ((hv.fixE e5 rfl).fixE e6 rfl)
                    clear hv
                    simp only [e5, e6]
                    refine wpOp_go rfl rfl (fun K hK => ?_)
                    go_simp
                    refine hK _ _ ?_
                    exact ⟨_, _, _, rfl, HV.out.new (x := .pointer (some ⟨ga', j * 5, none⟩)) rfl, hZ.keep.map (fun ⟨hb0, y17, y18⟩ => ⟨hb0, y17.keep (by decide), y18.keep (by decide)⟩), hM0.keep (by decide), hE.step (by simp [hp]), by simp [hz]⟩
                  · skip
                    have e7 : V2 7 = .pointer (some ⟨ga', j * 5, none⟩) := hv.get 7 (by decide) (by simp [hp])
                    have HV := Lib.hid (hv.fixE e7 rfl)
                    clear hv
                    simp only [e7]
                    have hY := hZ.get (fun h => off hoff (hE.get 9 8 (by decide) (hE.get 17 9 (by decide) (hE.get 18 17 (by decide) (hE.get 19 18 (by decide) h)))))
                    obtain ⟨z0, z1, z2, z3, z4⟩ := ha4
                    have y0 := keepc hY.1 z0 ha3; have y1 := keepc hY.1 z1 ha3; have y2 := keepc hY.1 z2 ha3; have y3 := keepc hY.1 z3 ha3; have y4 := keepc hY.1 z4 ha3
                    refine wpOp_go rfl rfl (fun K hK => ?_)
                    go_simp
                    refine hK _ _ ?_
                    exact ⟨_, _, _, rfl, HV.out.new (x := .agg #[.bool (sn (na x')), .slice A1' (ln (ab (na x'))) (ln (ab (na x'))), .bool (sn (nb x')), .slice A2' (ln (ab (nb x'))) (ln (ab (nb x'))), .slice A3' (ln (un x')) (ln (un x'))]) rfl, hZ.keep.map (fun ⟨hb0, y17, y18⟩ => ⟨hb0, y17.keep (by decide), y18.keep (by decide)⟩), hM0.keep (by decide), hE.step (by simp [hp]), by simp [hz]⟩
                  · skip
                    have e8 : V2 8 = .agg #[.bool (sn (na x')), .slice A1' (ln (ab (na x'))) (ln (ab (na x'))), .bool (sn (nb x')), .slice A2' (ln (ab (nb x'))) (ln (ab (nb x'))), .slice A3' (ln (un x')) (ln (un x'))] := hv.get 8 (by decide) (by simp [hp])
                    have HV := Lib.hid (hv.fixE e8 rfl)
                    clear hv
                    simp only [e8]
                    refine wpOp_go rfl rfl (fun K hK => ?_)
                    go_simp
                    refine hK _ _ ?_
                    exact ⟨_, _, _, rfl, HV.out.new (x := .iface 45 (.agg #[.bool (sn (na x')), .slice A1' (ln (ab (na x'))) (ln (ab (na x'))), .bool (sn (nb x')), .slice A2' (ln (ab (nb x'))) (ln (ab (nb x'))), .slice A3' (ln (un x')) (ln (un x'))])) rfl, hZ.keep.map (fun ⟨hb0, y17, y18⟩ => ⟨hb0, y17.keep (by decide), y18.keep (by decide)⟩), hM0.keep (by decide), hE.step (by simp [hp]), by simp [hz]⟩
                  · skip
                    have HV := Lib.hid hv
                    clear hv
                    refine wpOp_go rfl rfl (fun K hK => ?_)
                    go_simp
                    refine hK _ _ ?_
                    exact ⟨_, _, _, rfl, HV.out.new (x := .slice (some ⟨b2, fo2, none⟩) nq c2) rfl, hZ.keep.map (fun ⟨hb0, y17, y18⟩ => ⟨hb0, y17.keep (by decide), y18.keep (by decide)⟩), hM0.keep (by decide), hE.mono (by decide), by simp [hz]⟩
                  · skip
                    have HV := Lib.hid hv
                    clear hv
                    refine wpOp_go rfl rfl (fun K hK => ?_)
                    go_simp
                    refine hK _ _ ?_
                    exact ⟨_, _, _, rfl, HV.out.new (x := .int .i64 j) rfl, hZ.keep.map (fun ⟨hb0, y17, y18⟩ => ⟨hb0, y17.keep (by decide), y18.keep (by decide)⟩), hM0.keep (by decide), hE.mono (by decide), by simp [hz]⟩
                  · skip
                    have e10 : V2 10 = .slice (some ⟨b2, fo2, none⟩) nq c2 := hv.get 10 (by decide) (by simp [hp])
                    have e11 : V2 11 = .int .i64 j := hv.get 11 (by decide) (by simp [hp])
                    have HV := Lib.hid ((hv.fixE e10 rfl).fixE e11 rfl)
                    clear hv
                    simp only [e10, e11]
                    refine wpOp_go rfl rfl (fun K hK => ?_)
                    go_simp
                    refine hK _ _ ?_
                    exact ⟨_, _, _, rfl, HV.out.new (x := .pointer (some ⟨b2, fo2 + j, none⟩)) rfl, hZ.keep.map (fun ⟨hb0, y17, y18⟩ => ⟨hb0, y17.keep (by decide), y18.keep (by decide)⟩), hM0.keep (by decide), hE.mono (by decide), by simp [hz]⟩
                  · skip
                    have e12 : V2 12 = .pointer (some ⟨b2, fo2 + j, none⟩) := hv.get 12 (by decide) (by simp [hp])
                    have HV := Lib.hid (hv.fixE e12 rfl)
                    clear hv
                    simp only [e12]
                    have hY := hZ.get (fun h => off hoff (hE.get 15 13 (by decide) (hE.get 16 15 (by decide) (hE.get 17 16 (by decide) (hE.get 18 17 (by decide) (hE.get 19 18 (by decide) h))))))
                    have z := keepc hY.1 hb2 hb1
                    refine wpOp_go rfl rfl (fun K hK => ?_)
                    go_simp
                    refine hK _ _ ?_
                    exact ⟨_, _, _, rfl, HV.out.new (x := .slice (some ⟨gb', 0, none⟩) m Kb') rfl, hZ.keep.map (fun ⟨hb0, y17, y18⟩ => ⟨hb0, y17.keep (by decide), y18.keep (by decide)⟩), hM0.keep (by decide), hE.mono (by decide), by simp [hz]⟩
                  · skip
                    have HV := Lib.hid hv
                    clear hv
                    refine wpOp_go rfl rfl (fun K hK => ?_)
                    go_simp
                    refine hK _ _ ?_
                    exact ⟨_, _, _, rfl, HV.out.new (x := .int .i64 k) rfl, hZ.keep.map (fun ⟨hb0, y17, y18⟩ => ⟨hb0, y17.keep (by decide), y18.keep (by decide)⟩), hM0.keep (by decide), hE.mono (by decide), by simp [hz]⟩
                  · skip
                    have e13 : V2 13 = .slice (some ⟨gb', 0, none⟩) m Kb' := hv.get 13 (by decide) (by simp [hp])
                    have e14 : V2 14 = .int .i64 k := hv.get 14 (by decide) (by simp [hp])
                    have HV := Lib.hid ((hv.fixE e13 rfl).fixE e14 rfl)
                    clear hv
                    simp only [e13, e14]
                    refine wpOp_go rfl rfl (fun K hK => ?_)
                    go_simp
                    refine hK _ _ ?_
                    exact ⟨_, _, _, rfl, HV.out.new (x := .pointer (some ⟨gb', k * 5, none⟩)) rfl, hZ.keep.map (fun ⟨hb0, y17, y18⟩ => ⟨hb0, y17.keep (by decide), y18.keep (by decide)⟩), hM0.keep (by decide), hE.step (by simp [hp]), by simp [hz]⟩
                  · skip
                    have e15 : V2 15 = .pointer (some ⟨gb', k * 5, none⟩) := hv.get 15 (by decide) (by simp [hp])
                    have HV := Lib.hid (hv.fixE e15 rfl)
                    clear hv
                    simp only [e15]
                    have hY := hZ.get (fun h => off hoff (hE.get 17 16 (by decide) (hE.get 18 17 (by decide) (hE.get 19 18 (by decide) h))))
                    obtain ⟨z0, z1, z2, z3, z4⟩ := hb4
                    have y0 := keepc hY.1 z0 hb3; have y1 := keepc hY.1 z1 hb3; have y2 := keepc hY.1 z2 hb3; have y3 := keepc hY.1 z3 hb3; have y4 := keepc hY.1 z4 hb3
                    refine wpOp_go rfl rfl (fun K hK => ?_)
                    go_simp
                    refine hK _ _ ?_
                    exact ⟨_, _, _, rfl, HV.out.new (x := .agg #[.bool (sn (na y')), .slice B1' (ln (ab (na y'))) (ln (ab (na y'))), .bool (sn (nb y')), .slice B2' (ln (ab (nb y'))) (ln (ab (nb y'))), .slice B3' (ln (un y')) (ln (un y'))]) rfl, hZ.keep.map (fun ⟨hb0, y17, y18⟩ => ⟨hb0, y17.keep (by decide), y18.keep (by decide)⟩), hM0.keep (by decide), hE.step (by simp [hp]), by simp [hz]⟩
                  · skip
                    have e9 : V2 9 = .iface 45 (.agg #[.bool (sn (na x')), .slice A1' (ln (ab (na x'))) (ln (ab (na x'))), .bool (sn (nb x')), .slice A2' (ln (ab (nb x'))) (ln (ab (nb x'))), .slice A3' (ln (un x')) (ln (un x'))]) := hv.get 9 (by decide) (by simp [hp])
                    have e16 : V2 16 = .agg #[.bool (sn (na y')), .slice B1' (ln (ab (na y'))) (ln (ab (na y'))), .bool (sn (nb y')), .slice B2' (ln (ab (nb y'))) (ln (ab (nb y'))), .slice B3' (ln (un y')) (ln (un y'))] := hv.get 16 (by decide) (by simp [hp])
                    have HV := Lib.hid ((hv.fixE e9 rfl).fixE e16 rfl)
                    clear hv
                    simp only [e9, e16]
                    have hY := hZ.get (fun h => off hoff (hE.get 18 17 (by decide) (hE.get 19 18 (by decide) h)))
                    refine wpOp_go rfl rfl (fun K hK => ?_)
                    go_wp2_with (first | (go_at_call 19; refine (mul_num x' y' A1' A2' A3' B1' B2' B3' _ (ha5.to hY.1) (hb5.to hY.1) (Z2.out.1.mono (by decide)) (Z2.out.2.mono (by decide))).mono ?_; rintro e w3 ⟨E1, E2, E3, rfl, hN, hb⟩))
                    try refine hK _ _ ?_
                    exact ⟨_, _, _, rfl, HV.out.other (by decide), Off.new ⟨hY.1.trans (hb.mono hY.1.size), On.new (⟨E1, E2, E3, rfl, hN⟩), ((hY.2.2).keep (by decide)).map (fun h => h.to hb)⟩, fun h => absurd (hE.get 18 17 (by decide) (hE.get 19 18 (by decide) (on_ne h (by decide)))) (off hoff), hE.step (by simp [hp]), by simp [hz]⟩
                  · skip
                    have e1 : V2 1 = .iface 45 (.agg #[.bool (sn (na s)), .slice S1 (ln (ab (na s))) (ln (ab (na s))), .bool (sn (nb s)), .slice S2 (ln (ab (nb s))) (ln (ab (nb s))), .slice S3 (ln (un s)) (ln (un s))]) := hv.get 1 (by decide) (by simp [hp])
                    have HV := Lib.hid (hv.fixE e1 rfl)
                    clear hv
                    simp only [e1]
                    have hY := hZ.get (fun h => off hoff (hE.get 19 18 (by decide) h))
                    obtain ⟨G1, G2, G3, e0, hM⟩ := hY.2.1.get (by simp [hp])
                    subst e0
                    refine wpOp_go rfl rfl (fun K hK => ?_)
                    go_wp2_with (first | (go_at_call 18; refine (add_num s (x'.mul y') S1 S2 S3 G1 G2 G3 _ (hsn.to hY.1) hM (ZZ.out.1.mono (by decide)) (ZZ.out.2.mono (by decide))).mono ?_; rintro e w3 ⟨E1, E2, E3, rfl, hN, hb⟩))
                    try refine hK _ _ ?_
                    exact ⟨_, _, _, rfl, HV.out.other (by decide), Off.new ⟨hY.1.trans (hb.mono hY.1.size), ((hY.2.1).keep (by decide)).map (fun h => h.to hb), On.new (⟨E1, E2, E3, rfl, hN⟩)⟩, fun h => absurd (hE.get 19 18 (by decide) (on_ne h (by decide))) (off hoff), hE.step (by simp [hp]), by simp [hz]⟩
                  · skip
                    have HV := Lib.hid hv
                    clear hv
                    have hY := hZ.get (off hoff)
                    obtain ⟨E1, E2, E3, e1, hN⟩ := hY.2.2.get (by simp [hp])
                    subst e1
                    have hv6 := (hvj.to hY.1).var
                    have hv5 := hv6
                    obtain ⟨_, ⟨cc, u1, u2, u3, u4, d0, d1, d2, d3, d4⟩, ⟨f0, f1, f2, f3, f4⟩⟩ := hv5
                    refine wpOp_go rfl rfl (fun K hK => ?_)
                    go_simp
                    refine hK _ _ ?_
                    obtain ⟨XX, hX⟩ : ∃ XX : World, XX = set5 W' gs (s.add (x'.mul y')) E1 E2 E3 := ⟨_, rfl⟩
                    have hw : set5 W' gs (s.add (x'.mul y')) E1 E2 E3 = XX := hX.symm
                    unfold set5 at hw
                    rw [hw]
                    subst hX
                    exact ⟨_, _, _, rfl, HV.out.other (by decide), Off.done (by omega), On.new (⟨hv6.putP hN, set5_below (HBJ.out.trans (hY.1.mono HBJ.out.size)) hgs⟩), hE.step (by simp [hp]), by simp [hz]⟩
                · intro l a' W' hr hI
                  obtain ⟨V2, x17, x18, rfl, hv, hZ, hM0, hE, hz⟩ := hI
                  have a0 := not_ready (i := 0) hr hz rfl (by simp [Region.binds])
                  have a1 := not_ready (i := 1) hr hz rfl (by simp [Region.binds, a0])
                  have a2 := not_ready (i := 2) hr hz rfl (by simp [Region.binds, a0, a1])
                  have a3 := not_ready (i := 3) hr hz rfl (by simp [Region.binds, a0, a1, a2])
                  have a4 := not_ready (i := 4) hr hz rfl (by simp [Region.binds, a0, a1, a2, a3])
                  have a5 := not_ready (i := 5) hr hz rfl (by simp [Region.binds, a0, a1, a2, a3, a4])
                  have a6 := not_ready (i := 6) hr hz rfl (by simp [Region.binds, a0, a1, a2, a3, a4, a5])
                  have a7 := not_ready (i := 7) hr hz rfl (by simp [Region.binds, a0, a1, a2, a3, a4, a5, a6])
                  have a8 := not_ready (i := 8) hr hz rfl (by simp [Region.binds, a0, a1, a2, a3, a4, a5, a6, a7])
                  have a9 := not_ready (i := 9) hr hz rfl (by simp [Region.binds, a0, a1, a2, a3, a4, a5, a6, a7, a8])
                  have a10 := not_ready (i := 10) hr hz rfl (by simp [Region.binds, a0, a1, a2, a3, a4, a5, a6, a7, a8, a9])
                  have a11 := not_ready (i := 11) hr hz rfl (by simp [Region.binds, a0, a1, a2, a3, a4, a5, a6, a7, a8, a9, a10])
                  have a12 := not_ready (i := 12) hr hz rfl (by simp [Region.binds, a0, a1, a2, a3, a4, a5, a6, a7, a8, a9, a10, a11])
                  have a13 := not_ready (i := 13) hr hz rfl (by simp [Region.binds, a0, a1, a2, a3, a4, a5, a6, a7, a8, a9, a10, a11, a12])
                  have a14 := not_ready (i := 14) hr hz rfl (by simp [Region.binds, a0, a1, a2, a3, a4, a5, a6, a7, a8, a9, a10, a11, a12, a13])
                  have a15 := not_ready (i := 15) hr hz rfl (by simp [Region.binds, a0, a1, a2, a3, a4, a5, a6, a7, a8, a9, a10, a11, a12, a13, a14])
                  have a16 := not_ready (i := 16) hr hz rfl (by simp [Region.binds, a0, a1, a2, a3, a4, a5, a6, a7, a8, a9, a10, a11, a12, a13, a14, a15])
                  have a17 := not_ready (i := 17) hr hz rfl (by simp [Region.binds, a0, a1, a2, a3, a4, a5, a6, a7, a8, a9, a10, a11, a12, a13, a14, a15, a16])
                  have a18 := not_ready (i := 18) hr hz rfl (by simp [Region.binds, a0, a1, a2, a3, a4, a5, a6, a7, a8, a9, a10, a11, a12, a13, a14, a15, a16, a17])
                  have a19 := not_ready (i := 19) hr hz rfl (by simp [Region.binds, a0, a1, a2, a3, a4, a5, a6, a7, a8, a9, a10, a11, a12, a13, a14, a15, a16, a17, a18])
                  have hY := hM0.get a19
                  clear hr hz hv hZ a0 a1 a2 a3 a4 a5 a6 a7 a8 a9 a10 a11 a12 a13 a14 a15 a16 a17 a18 a19 hM0 hE
                  rw [← HS1.out] at hY
                  go_wp2_with fail
                  go_roundw
                  case rel => exact ⟨j + 1, by omega, by omega, by go_num, hY.1, hY.2⟩
                  case measure => simp [intOf]; omega
                · exact ⟨fun zz => List.getD [u68, u69, u70, u71, u72, u73, u74, u75, u76, u77, u78, u79, u80, u81, u82, u83, u84, u85, u86, undef] zz undef, _, _, rfl, OnFix.start, Off.new ⟨((Below.refl _ _).drew), fun h => absurd h (by decide), fun h => absurd h (by decide)⟩, fun h => absurd h (by decide), Edg.start, by simp⟩
              · obtain rfl : j = nq := by omega
                obtain ⟨S1, S2, S3, hsc, hsn⟩ := hvj.slot
                have hls := hvj.1
                obtain ⟨v1, hv1, hv2, hpush⟩ := HB3.out.push hlt (by simp; omega)
                have hLk : F i ((fun x => if x < i then m else if x = i then k else 0) i) = dotC f g i k j := by simp [HF.out]
                have HLK := Lib.hid hLk
                replace hv1 := keepc hbj hv1 hv2
                replace hv2 := Nat.lt_of_lt_of_le hv2 hbj.size
                obtain ⟨s, hs⟩ : ∃ s, s = dotC f g i k j := ⟨_, rfl⟩
                rw [← hs] at hsc hsn HLK
                have HBJ := Lib.hid hbj
                clear hs hbw hBw hvj hbj hLk
                go_upto_region 17 with fail
                refine wp_region_any (by kernel_rfl) ?_
                refine wpAny_inv (fun l a' w' => ∃ V3 : Nat → Value, ∃ x7 x8 : Value, a' = ⟨List.toArray (.slice (some ⟨b, fo, none⟩) n c :: .slice (some ⟨b2, fo2, none⟩) j c2 :: undef :: undef :: .slice none 0 0 :: .int .i64 0 :: .int .i64 ↑j :: .bool true :: .int .i64 ↑m :: .bool true :: .slice (some ⟨gO, 0, none⟩) n n :: .int .i64 ↑i :: .int .i64 ↑k :: .pointer (some ⟨gs, 0, none⟩) :: .int .i64 ↑j :: .tuple #[.int .i64 ↑j, .bool true] :: .slice (some ⟨b, fo, none⟩) n c :: .tuple #[.int .i64 ↑j, .bool true] :: .int .i64 ↑j :: .bool true :: .tuple #[.int .i64 ↑m, .bool true] :: .slice (some ⟨b2, fo2, none⟩) j c2 :: .tuple #[.int .i64 ↑m, .bool true] :: .int .i64 ↑m :: .bool true :: .bool true :: .bool false :: .bool false :: .bool true :: .bool false :: .bool false :: .bool false :: .int .i64 ↑j :: .slice (some ⟨b2, fo2, none⟩) j c2 :: .int .i64 ↑j :: .bool false :: .bool false :: .slice (some ⟨b, fo, none⟩) n c :: .int .i64 ↑n :: .slice (some ⟨gO, 0, none⟩) n n :: .slice (some ⟨gO, 0, none⟩) n n :: .int .i64 ↑n :: .int .i64 ↑i :: .bool true :: .int .i64 ↑i :: .int .i64 ↑m :: .int .i64 ↑k :: .bool true :: .int .i64 ↑k :: V 0 :: V 1 :: V 2 :: V 3 :: V 4 :: V 5 :: V 6 :: V 7 :: V 8 :: V 9 :: V 10 :: V 11 :: V 12 :: x13 :: .int .i64 ↑j :: .int .i64 ↑j :: .bool false :: u66 :: u67 :: u68 :: u69 :: u70 :: u71 :: u72 :: u73 :: u74 :: u75 :: u76 :: u77 :: u78 :: u79 :: u80 :: u81 :: u82 :: u83 :: u84 :: u85 :: u86 :: V3 0 :: V3 1 :: V3 2 :: V3 3 :: V3 4 :: V3 5 :: V3 6 :: x7 :: x8 :: V3 9 :: u97 :: u98 :: undef :: []), []⟩ ∧ OnFix l V3 (fun zz => List.getD [.slice (some ⟨gO, 0, none⟩) n n, .int .i64 i, .slice (some ⟨gO, 0, none⟩) n n, .int .i64 i, .pointer (some ⟨gO, i, none⟩), v1, .agg #[.bool (sn (na s)), .slice S1 (ln (ab (na s))) (ln (ab (na s))), .bool (sn (nb s)), .slice S2 (ln (ab (nb s))) (ln (ab (nb s))), .slice S3 (ln (un s)) (ln (un s))], undef, undef, .pointer (some ⟨gO, i, none⟩), undef] zz undef) [0, 1, 2, 3, 4, 5, 6, 9] ∧ Off l 8 (Below wr.heap.size wr w' ∧ On l 7 (BoxN wr.heap.size w' x7 s)) ∧ On l 8 (Off l 10 (MidP w2 gO n i (fun x => if x < i then m else if x = i then k else 0) F x8 w')) ∧ On l 10 (BldP w2 gO n (more (fun x => if x < i then m else if x = i then k else 0) i) F w') ∧ Edg l [(8, 5), (8, 7), (7, 6), (10, 8)] ∧ l.size = 11) ?_ ?_ _ _ _ _ (by decide) ?_
                · intro l a' W' i hi hI
                  obtain ⟨V3, x7, x8, rfl, hv, hZ, hM0, hM1, hE, hz⟩ := hI
                  obtain ⟨hlt, hoff, hpre⟩ := ready_pre hi
                  have hc : i ∈ [0, 1, 2, 3, 4, 5, 6, 7, 8, 9, 10] := (by decide : ∀ i, i < 11 → i ∈ [0, 1, 2, 3, 4, 5, 6, 7, 8, 9, 10]) i hlt
                  simp only [List.mem_cons, List.not_mem_nil, or_false] at hc
                  clear hi hlt
                  rcases hc with rfl | rfl | rfl | rfl | rfl | rfl | rfl | rfl | rfl | rfl | rfl <;> (have hp := hpre _ rfl; simp [Region.binds] at hp; clear hpre)
                  · skip
                    have HV := Lib.hid hv
                    clear hv
                    refine wpOp_go rfl rfl (fun K hK => ?_)
                    go_simp
                    refine hK _ _ ?_
                    exact ⟨_, _, _, rfl, HV.out.new (x := .slice (some ⟨gO, 0, none⟩) n n) rfl, hZ.keep.map (fun ⟨hb0, y7⟩ => ⟨hb0, y7.keep (by decide)⟩), (hM0.keep (by decide)).map Off.keep, hM1.keep (by decide), hE.mono (by decide), by simp [hz]⟩
                  · skip
                    have HV := Lib.hid hv
                    clear hv
                    refine wpOp_go rfl rfl (fun K hK => ?_)
                    go_simp
                    refine hK _ _ ?_
                    exact ⟨_, _, _, rfl, HV.out.new (x := .int .i64 i) rfl, hZ.keep.map (fun ⟨hb0, y7⟩ => ⟨hb0, y7.keep (by decide)⟩), (hM0.keep (by decide)).map Off.keep, hM1.keep (by decide), hE.mono (by decide), by simp [hz]⟩
                  · skip
                    have HV := Lib.hid hv
                    clear hv
                    refine wpOp_go rfl rfl (fun K hK => ?_)
                    go_simp
                    refine hK _ _ ?_
                    exact ⟨_, _, _, rfl, HV.out.new (x := .slice (some ⟨gO, 0, none⟩) n n) rfl, hZ.keep.map (fun ⟨hb0, y7⟩ => ⟨hb0, y7.keep (by decide)⟩), (hM0.keep (by decide)).map Off.keep, hM1.keep (by decide), hE.mono (by decide), by simp [hz]⟩
                  · skip
                    have HV := Lib.hid hv
                    clear hv
                    refine wpOp_go rfl rfl (fun K hK => ?_)
                    go_simp
                    refine hK _ _ ?_
                    exact ⟨_, _, _, rfl, HV.out.new (x := .int .i64 i) rfl, hZ.keep.map (fun ⟨hb0, y7⟩ => ⟨hb0, y7.keep (by decide)⟩), (hM0.keep (by decide)).map Off.keep, hM1.keep (by decide), hE.mono (by decide), by simp [hz]⟩
                  · skip
                    have e2 : V3 2 = .slice (some ⟨gO, 0, none⟩) n n := hv.get 2 (by decide) (by simp [hp])
                    have e3 : V3 3 = .int .i64 i := hv.get 3 (by decide) (by simp [hp])
                    have HV := Lib.hid ((hv.fixE e2 rfl).fixE e3 rfl)
                    clear hv
                    simp only [e2, e3]
                    refine wpOp_go rfl rfl (fun K hK => ?_)
                    go_simp
                    refine hK _ _ ?_
                    exact ⟨_, _, _, rfl, HV.out.new (x := .pointer (some ⟨gO, i, none⟩)) rfl, hZ.keep.map (fun ⟨hb0, y7⟩ => ⟨hb0, y7.keep (by decide)⟩), (hM0.keep (by decide)).map Off.keep, hM1.keep (by decide), hE.mono (by decide), by simp [hz]⟩
                  · skip
                    have e4 : V3 4 = .pointer (some ⟨gO, i, none⟩) := hv.get 4 (by decide) (by simp [hp])
                    have HV := Lib.hid (hv.fixE e4 rfl)
                    clear hv
                    simp only [e4]
                    have hY := hZ.get (fun h => off hoff (hE.get 8 5 (by decide) h))
                    have z := keepc hY.1 hv1 hv2
                    refine wpOp_go rfl rfl (fun K hK => ?_)
                    go_simp
                    refine hK _ _ ?_
                    exact ⟨_, _, _, rfl, HV.out.new (x := v1) rfl, hZ.keep.map (fun ⟨hb0, y7⟩ => ⟨hb0, y7.keep (by decide)⟩), (hM0.keep (by decide)).map Off.keep, hM1.keep (by decide), hE.mono (by decide), by simp [hz]⟩
                  · skip
                    have HV := Lib.hid hv
                    clear hv
                    have hY := hZ.get (fun h => off hoff (hE.get 7 6 (by decide) (hE.get 8 7 (by decide) h)))
                    obtain ⟨z0, z1, z2, z3, z4⟩ := hsc
                    have y0 := keepc hY.1 z0 hls; have y1 := keepc hY.1 z1 hls; have y2 := keepc hY.1 z2 hls; have y3 := keepc hY.1 z3 hls; have y4 := keepc hY.1 z4 hls
                    refine wpOp_go rfl rfl (fun K hK => ?_)
                    go_simp
                    refine hK _ _ ?_
                    exact ⟨_, _, _, rfl, HV.out.new (x := .agg #[.bool (sn (na s)), .slice S1 (ln (ab (na s))) (ln (ab (na s))), .bool (sn (nb s)), .slice S2 (ln (ab (nb s))) (ln (ab (nb s))), .slice S3 (ln (un s)) (ln (un s))]) rfl, hZ.keep.map (fun ⟨hb0, y7⟩ => ⟨hb0, y7.keep (by decide)⟩), (hM0.keep (by decide)).map Off.keep, hM1.keep (by decide), hE.mono (by decide), by simp [hz]⟩
                  · skip
                    have e6 : V3 6 = .agg #[.bool (sn (na s)), .slice S1 (ln (ab (na s))) (ln (ab (na s))), .bool (sn (nb s)), .slice S2 (ln (ab (nb s))) (ln (ab (nb s))), .slice S3 (ln (un s)) (ln (un s))] := hv.get 6 (by decide) (by simp [hp])
                    have HV := Lib.hid (hv.fixE e6 rfl)
                    clear hv
                    simp only [e6]
                    have hY := hZ.get (fun h => off hoff (hE.get 8 7 (by decide) h))
                    refine wpOp_go rfl rfl (fun K hK => ?_)
                    go_simp
                    refine hK _ _ ?_
                    exact ⟨_, _, _, rfl, HV.out.other (by decide), Off.new ⟨hY.1.trans ((((Below.refl _ _).alloc (Nat.le_refl _) _)).mono hY.1.size), On.new (BoxN.new (hsn.to hY.1) hY.1.size)⟩, fun h => absurd (hE.get 8 7 (by decide) (on_ne h (by decide))) (off hoff), fun h => absurd (hE.get 8 7 (by decide) (hE.get 10 8 (by decide) (on_ne h (by decide)))) (off hoff), hE.step (by simp [hp]), by simp [hz]⟩
                  · skip
                    have e5 : V3 5 = v1 := hv.get 5 (by decide) (by simp [hp])
                    have HV := Lib.hid (hv.fixE e5 rfl)
                    clear hv
                    simp only [e5]
                    have hY := hZ.get (off hoff)
                    obtain ⟨bb, e0, hpe, hbb⟩ := hY.2.get (by simp [hp])
                    subst e0
                    obtain ⟨v', w3, er, m1, m2, m3, m4⟩ := hpush W' bb (HBJ.out.trans (hY.1.mono HBJ.out.size)) (Nat.le_trans HBJ.out.size hbb) (by rw [HLK.out]; exact hpe)
                    refine wpOp_go rfl rfl (fun K hK => ?_)
                    refine wp_append_run rfl rfl rfl er ?_
                    go_simp
                    refine hK _ _ ?_
                    exact ⟨_, _, _, rfl, HV.out.other (by decide), Off.done (by omega), On.new (Off.new (⟨m1, m2, m3, m4⟩)), fun h => absurd (hE.get 10 8 (by decide) (on_ne h (by decide))) (off hoff), hE.step (by simp [hp]), by simp [hz]⟩
                  · skip
                    have e0 : V3 0 = .slice (some ⟨gO, 0, none⟩) n n := hv.get 0 (by decide) (by simp [hp])
                    have e1 : V3 1 = .int .i64 i := hv.get 1 (by decide) (by simp [hp])
                    have HV := Lib.hid ((hv.fixE e0 rfl).fixE e1 rfl)
                    clear hv
                    simp only [e0, e1]
                    refine wpOp_go rfl rfl (fun K hK => ?_)
                    go_simp
                    refine hK _ _ ?_
                    exact ⟨_, _, _, rfl, HV.out.new (x := .pointer (some ⟨gO, i, none⟩)) rfl, hZ.keep.map (fun ⟨hb0, y7⟩ => ⟨hb0, y7.keep (by decide)⟩), (hM0.keep (by decide)).map Off.keep, hM1.keep (by decide), hE.mono (by decide), by simp [hz]⟩
                  · skip
                    have e9 : V3 9 = .pointer (some ⟨gO, i, none⟩) := hv.get 9 (by decide) (by simp [hp])
                    have HV := Lib.hid (hv.fixE e9 rfl)
                    clear hv
                    simp only [e9]
                    have hY := (hM0.get (by simp [hp])).get (off hoff)
                    obtain ⟨⟨v0, m1⟩, m2, ⟨S, sa, sb, m3⟩, m4⟩ := hY
                    subst m3
                    refine wpOp_go rfl rfl (fun K hK => ?_)
                    go_simp
                    refine hK _ _ ?_
                    exact ⟨_, _, _, rfl, HV.out.other (by decide), fun h => absurd (on_mono (by simp [hp])) h, (hM0.keep (by decide)).map (fun _ => Off.done (by omega)), On.new (m4), hE.step (by simp [hp]), by simp [hz]⟩
                · intro l a' W' hr hI
                  obtain ⟨V3, x7, x8, rfl, hv, hZ, hM0, hM1, hE, hz⟩ := hI
                  have a0 := not_ready (i := 0) hr hz rfl (by simp [Region.binds])
                  have a1 := not_ready (i := 1) hr hz rfl (by simp [Region.binds, a0])
                  have a2 := not_ready (i := 2) hr hz rfl (by simp [Region.binds, a0, a1])
                  have a3 := not_ready (i := 3) hr hz rfl (by simp [Region.binds, a0, a1, a2])
                  have a4 := not_ready (i := 4) hr hz rfl (by simp [Region.binds, a0, a1, a2, a3])
                  have a5 := not_ready (i := 5) hr hz rfl (by simp [Region.binds, a0, a1, a2, a3, a4])
                  have a6 := not_ready (i := 6) hr hz rfl (by simp [Region.binds, a0, a1, a2, a3, a4, a5])
                  have a7 := not_ready (i := 7) hr hz rfl (by simp [Region.binds, a0, a1, a2, a3, a4, a5, a6])
                  have a8 := not_ready (i := 8) hr hz rfl (by simp [Region.binds, a0, a1, a2, a3, a4, a5, a6, a7])
                  have a9 := not_ready (i := 9) hr hz rfl (by simp [Region.binds, a0, a1, a2, a3, a4, a5, a6, a7, a8])
                  have a10 := not_ready (i := 10) hr hz rfl (by simp [Region.binds, a0, a1, a2, a3, a4, a5, a6, a7, a8, a9])
                  have hY := hM1.get a10
                  clear hr hz hv hZ a0 a1 a2 a3 a4 a5 a6 a7 a8 a9 a10 hM0 hM1 hE
                  go_wp2_with fail
                  go_roundw
                  case rel => exact ⟨k + 1, by omega, by go_num, by rw [← step_len (fun _ => m)]; exact hY⟩
                  case measure => simp [intOf]; omega
                · exact ⟨fun zz => List.getD [u87, u88, u89, u90, u91, u92, u93, u94, u95, u96, undef] zz undef, _, _, rfl, OnFix.start, Off.new ⟨((Below.refl _ _).drew), fun h => absurd h (by decide)⟩, fun h => absurd h (by decide), fun h => absurd h (by decide), Edg.start, by simp⟩
          · exact ⟨fun zz => List.getD [u49, u50, u51, u52, u53, u54, u55, u56, u57, u58, u59, u60, u61, u62, u13, undef] zz undef, _, _, rfl, OnFix.start, Off.new ⟨((Below.refl _ _).drew), fun h => absurd h (by decide), fun h => absurd h (by decide)⟩, fun h => absurd h (by decide), Edg.start, by simp⟩
        · obtain rfl : k = m := by omega
          go_wp2_with fail
          go_roundw
          case rel => exact ⟨i + 1, by omega, by go_num, by rw [next_len (fun _ => k)]; exact hB3⟩
          case measure => simp [intOf]; omega
    · obtain rfl : i = n := by omega
      go_wp2_with fail
      obtain ⟨h1, h2⟩ := hB.done
      exact bodyPost_ret (v := .tuple #[.slice (some ⟨gO, 0, none⟩) i i, .int .i64 0]) (by simp [results, Tryz.results22, go_sem]) rfl ⟨_, _, rfl, h1, HB.out.trans (h2.mono HB.out.size)⟩
end Go.Proofs.YtdpjknjlhchmcaaGreat

namespace Go.Proofs.YtdpjknjlhchmcaaGreat
open Go.RowKit Pl
set_option linter.unusedVariables false
set_option linter.unusedSimpArgs false
set_option maxRecDepth 100000 in
set_option maxHeartbeats 40000000 in
theorem rproduct_no (w : World) (A B : Option Addr) (n c nq c2 : Nat) (N M : Nat → Nat) (f g : Nat → Nat → Cx) (hA : MatQ w A n N f) (hB : MatQ w B nq M g) (hn : n ≤ 1000) (hN : ∀ i, i < n → N i ≤ 1000) (hnq : nq ≤ 1000) (hM : ∀ i, i < nq → M i ≤ 1000)
    (hno : ¬ (Valid n N ∧ Valid nq M ∧ colN n N = nq)) :
    Calls Tryz.prog 23 #[.slice A n c, .slice B nq c2] w (RetErrE w 4) := by
  obtain ⟨R, K, hG, _⟩ := hA
  obtain ⟨R2, K2, hG2, _⟩ := hB
  obtain ⟨oa, hoa⟩ := bool_iff (Valid n N)
  obtain ⟨ob, hob⟩ := bool_iff (Valid nq M)
  have HC := rvalid_any w A n c R N K hG hn hN oa hoa
  have HC2 := Lib.hid (fun w2 (hb : Below w.heap.size w w2) => rvalid_any w2 B nq c2 R2 M K2 (hG2.to hb) hnq hM ob hob)
  have HC3 := Lib.hid (fun w2 (hb : Below w.heap.size w w2) => rcolumns_any w2 A n c R N K (hG.to hb) hn)
  rw [← hoa, ← hob] at hno
  obtain ⟨p, hpp⟩ : ∃ p, p = colN n N := ⟨_, rfl⟩
  rw [← hpp] at HC3 hno
  have HNO := Lib.hid hno
  clear hG hG2 hN hM hoa hob hno hpp
  go_enter Tryz.func23, Tryz.ntmps23
  go_wp2_with fail
  refine HC.mono ?_
  rintro e w1 ⟨rfl, hb⟩
  cases oa with
  | false =>
    go_wp2_with fail
    exact bodyPost_ret (v := .tuple #[.slice none 0 0, .int .i64 4]) (by simp [results, Tryz.results23, go_sem]) rfl ⟨rfl, hb⟩
  | true =>
    go_wp2_with fail
    refine (HC2.out w1 hb).mono ?_
    rintro e w2 ⟨rfl, hb2⟩
    have hb3 := hb.trans (hb2.mono hb.size)
    clear hb hb2 HC HC2
    cases ob with
    | false =>
      go_wp2_with fail
      exact bodyPost_ret (v := .tuple #[.slice none 0 0, .int .i64 4]) (by simp [results, Tryz.results23, go_sem]) rfl ⟨rfl, hb3⟩
    | true =>
      have t : ((p : Int) != (nq : Int)) = true := by rw [bne_iff_ne]; intro h; exact HNO.out ⟨by trivial, by trivial, by omega⟩
      go_wp2_with fail
      refine (HC3.out w2 hb3).mono ?_
      rintro e w3 ⟨rfl, hb4⟩
      have hb5 := hb3.trans (hb4.mono hb3.size)
      go_wp2_with fail
      exact bodyPost_ret (v := .tuple #[.slice none 0 0, .int .i64 4]) (by simp [results, Tryz.results23, go_sem]) rfl ⟨rfl, hb5⟩
/-- How many products entry (a, b) holds. -/
def pr (nq i k j a b : Nat) : Nat := if a < i ∨ (a = i ∧ b < k) then nq else if a = i ∧ b = k then j else 0
set_option maxRecDepth 100000 in
set_option maxHeartbeats 40000000 in
theorem rproduct_ok (w : World) (A B : Option Addr) (n c nq c2 : Nat) (N M : Nat → Nat) (f g : Nat → Nat → Cx) (hA : MatQ w A n N f) (hB : MatQ w B nq M g) (hn : n ≤ 1000) (hN : ∀ i, i < n → N i ≤ 1000) (hnq : nq ≤ 1000) (hM : ∀ i, i < nq → M i ≤ 1000)
    (hva : Valid n N) (hvb : Valid nq M) (hE : colN n N = nq) (hS : ∀ i k j, i < n → k < colN nq M → j < nq → sz 100000 (f i j) ∧ sz 100000 (g j k) ∧ sz 300000 (dotC f g i k j)) :
    Calls Tryz.prog 23 #[.slice A n c, .slice B nq c2] w (RetMatQE w n (fun _ => colN nq M) fun i k => dotC f g i k nq) := by
  have HMA := Lib.hid hA; have HMB := Lib.hid hB
  obtain ⟨R, K, hG, _⟩ := hA
  obtain ⟨R2, K2, hG2, _⟩ := hB
  have hNa := valid_colN hva
  rw [hE] at hNa
  have hMb := valid_colN hvb
  have hp := colN_le hM
  have HC := rvalid_any w A n c R N K hG hn hN true ⟨fun _ => hva, fun _ => rfl⟩
  have HC2 := Lib.hid (fun w2 (hb : Below w.heap.size w w2) => rvalid_any w2 B nq c2 R2 M K2 (hG2.to hb) hnq hM true ⟨fun _ => hvb, fun _ => rfl⟩)
  have HC3 := Lib.hid (fun w2 (hb : Below w.heap.size w w2) => rcolumns_any w2 A n c R N K (hG.to hb) hn)
  have HC4 := Lib.hid (fun w2 (hb : Below w.heap.size w w2) => rcolumns_any w2 B nq c2 R2 M K2 (hG2.to hb) hnq)
  have hz : colN nq M ≠ 0 → 0 < nq := by unfold colN; split <;> omega
  rw [hE] at HC3
  generalize colN nq M = m at *
  have HNa := Lib.hid hNa; have HMb := Lib.hid hMb; have HS := Lib.hid hS; have HZ := Lib.hid hz
  clear hG hG2 hN hM hva hvb hE hNa hMb hS hz
  have HZE := Lib.hid (fun w2 => zeros_any w2 n m hn hp)
  have t : ((nq : Int) != (nq : Int)) = false := by rw [bne_eq_false_iff_eq]
  go_enter Tryz.func23, Tryz.ntmps23
  go_wp2_with fail
  refine HC.mono ?_
  rintro e w1 ⟨rfl, hb1⟩
  go_wp2_with fail
  refine (HC2.out w1 hb1).mono ?_
  rintro e w2 ⟨rfl, hb2⟩
  have h2 := hb1.trans (hb2.mono hb1.size)
  clear hb1 hb2 HC HC2
  go_wp2_with fail
  refine (HC3.out w2 h2).mono ?_
  rintro e w3 ⟨rfl, hb3⟩
  have h3 := h2.trans (hb3.mono h2.size)
  clear h2 hb3 HC3
  go_wp2_with fail
  refine (HC4.out w3 h3).mono ?_
  rintro e w4 ⟨rfl, hb4⟩
  have HB := Lib.hid (h3.trans (hb4.mono h3.size))
  clear h3 hb4 t
  go_wp2_with fail
  refine (HZE.out w4).mono ?_
  rintro e w5 ⟨gO, rfl, hB00⟩
  have hB0 : MkQ w4 gO n m n (fun _ _ => True) (fun a b => dotC f g a b (pr nq 0 0 0 a b)) w5 := hB00.cong (fun a b _ _ _ => ⟨trivial, by
    have : pr nq 0 0 0 a b = 0 := by unfold pr; split <;> (try split) <;> omega
    rw [this]; rfl⟩)
  clear hB00 HZE
  replace HMA := Lib.hid (HMA.out.to HB.out); replace HMB := Lib.hid (HMB.out.to HB.out)
  go_upto_region 5 with fail
  go_loopw [7] (fun i (wr : World) => ∃ k : Nat, k ≤ n ∧ i = .int .i64 k ∧ MkQ w4 gO n m n (fun _ _ => True) (fun a b => dotC f g a b (pr nq k 0 0 a b)) wr) (fun i _ => n - (intOf i).toNat)
  case atStart => exact ⟨0, Nat.zero_le _, rfl, hB0⟩
  case round =>
    obtain ⟨i, hi, rfl, hB⟩ := hrel
    clear hB0
    by_cases hlt : i < n
    · have hB2 := hB
      clear hB
      go_upto_region 8 with fail
      go_loopw [8] (fun q (wr : World) => ∃ k : Nat, k ≤ m ∧ q = .int .i64 k ∧ MkQ w4 gO n m n (fun _ _ => True) (fun a b => dotC f g a b (pr nq i k 0 a b)) wr) (fun q _ => m - (intOf q).toNat)
      case atStart => exact ⟨0, Nat.zero_le _, rfl, hB2⟩
      case round =>
        obtain ⟨k, hk, rfl, hB3⟩ := hrel
        clear hB2
        go_wp2_with fail
        refine (HC4.out wr (HB.out.trans (hB3.below.mono HB.out.size))).mono ?_
        rintro e wv ⟨rfl, hbv⟩
        replace hB3 := hB3.to hbv
        clear hbv
        by_cases hlk : k < m
        · have hp0 : 0 < nq := HZ.out (by omega)
          go_upto_region 11 with fail
          go_loopw [9] (fun q (wr : World) => ∃ j : Nat, j ≤ nq ∧ q = .int .i64 j ∧ MkQ w4 gO n m n (fun _ _ => True) (fun a b => dotC f g a b (pr nq i k j a b)) wr) (fun q _ => nq - (intOf q).toNat)
          case atStart => exact ⟨0, Nat.zero_le _, rfl, hB3⟩
          case round =>
            obtain ⟨j, hj, rfl, hB⟩ := hrel
            clear hB3
            by_cases hlj : j < nq
            · have hbw := hB.below
              obtain ⟨b, fo, ga, Ka, A1, A2, A3, a1, a2, a3, rfl, ha1, ha2, ha3, ha4, ha5⟩ := (HMA.out.to hbw).at hlt hlj (HNa.out i hlt)
              obtain ⟨b2, fo2, gb, Kb, B1, B2, B3, b1', b2', b3', rfl, hb1, hb2, hb3, hb4, hb5⟩ := (HMB.out.to hbw).at hlj hlk (HMb.out j hlj)
              obtain ⟨g0, hg1, hg2, hg3, hent, hput⟩ := hB.put hlt hlt hlk
              have hpr : pr nq i k j i k = j := by unfold pr; simp
              replace hent := hent trivial
              rw [hpr] at hent
              obtain ⟨zx, zy, zs⟩ := HS.out i k j hlt hlk hlj
              have hs1 : dotC f g i k (j + 1) = (dotC f g i k j).add ((f i j).mul (g j k)) := rfl
              obtain ⟨x, hx⟩ : ∃ x, x = f i j := ⟨_, rfl⟩
              obtain ⟨y, hy⟩ : ∃ y, y = g j k := ⟨_, rfl⟩
              obtain ⟨s, hs⟩ : ∃ s, s = dotC f g i k j := ⟨_, rfl⟩
              rw [← hx] at ha4 ha5 zx
              rw [← hy] at hb4 hb5 zy
              rw [← hs] at hent zs
              rw [← hs, ← hx, ← hy] at hs1
              obtain ⟨S1, S2, S3, s1, s2, s3, hsc, hsn⟩ := hent
              have HS1 := Lib.hid hs1
              have ZZ := Lib.hid (And.intro zs (sz_mul zx zy))
              have Z2 := Lib.hid (And.intro zx zy)
              have i1 : (0 : Int) ≤ (i : Int) := by omega
              have i2 : (i : Int) < (n : Int) := by omega
              have i3 : (0 : Int) ≤ (k : Int) := by omega
              have i4 : (k : Int) < (m : Int) := by omega
              have i5 : (0 : Int) ≤ (j : Int) := by omega
              have i6 : (j : Int) < (nq : Int) := by omega
              clear hB hbw hx hy hs hs1 zx zy zs hpr
              go_upto_region 13 with fail
              refine wp_region_any (by kernel_rfl) ?_
              refine wpAny_inv (fun l a' w' => ∃ V : Nat → Value, ∃ x26 x27 : Value, a' = ⟨List.toArray (.slice (some ⟨b, fo, none⟩) n c :: .slice (some ⟨b2, fo2, none⟩) nq c2 :: undef :: undef :: .slice none 0 0 :: .int .i64 0 :: .slice (some ⟨gO, 0, none⟩) n n :: .int .i64 ↑i :: .int .i64 ↑k :: .int .i64 ↑j :: .slice (some ⟨b, fo, none⟩) n c :: .bool true :: .bool false :: .bool false :: .slice (some ⟨b2, fo2, none⟩) nq c2 :: .bool true :: .bool false :: .bool false :: .bool false :: .slice (some ⟨b, fo, none⟩) n c :: .int .i64 ↑nq :: .slice (some ⟨b2, fo2, none⟩) nq c2 :: .int .i64 ↑nq :: .bool false :: .bool false :: .slice (some ⟨b, fo, none⟩) n c :: .int .i64 ↑n :: .slice (some ⟨b2, fo2, none⟩) nq c2 :: .int .i64 ↑m :: .slice (some ⟨gO, 0, none⟩) n n :: .int .i64 ↑i :: .slice (some ⟨b, fo, none⟩) n c :: .int .i64 ↑n :: .bool true :: u34 :: u35 :: .int .i64 ↑k :: .slice (some ⟨b2, fo2, none⟩) nq c2 :: .int .i64 ↑m :: .bool true :: u40 :: u41 :: .int .i64 ↑j :: .slice (some ⟨b2, fo2, none⟩) nq c2 :: .int .i64 ↑nq :: .bool true :: u46 :: u47 :: V 0 :: V 1 :: V 2 :: V 3 :: V 4 :: V 5 :: V 6 :: V 7 :: V 8 :: V 9 :: V 10 :: V 11 :: V 12 :: V 13 :: V 14 :: V 15 :: V 16 :: V 17 :: V 18 :: V 19 :: V 20 :: V 21 :: V 22 :: V 23 :: V 24 :: V 25 :: x26 :: x27 :: V 28 :: undef :: []), []⟩ ∧ OnFix l V (fun zz => List.getD [.slice (some ⟨gO, 0, none⟩) n n, .int .i64 i, .pointer (some ⟨gO, i, none⟩), .slice (some ⟨g0, 0, none⟩) m m, .int .i64 k, .slice (some ⟨gO, 0, none⟩) n n, .int .i64 i, .pointer (some ⟨gO, i, none⟩), .slice (some ⟨g0, 0, none⟩) m m, .int .i64 k, .pointer (some ⟨g0, k * 5, none⟩), .agg #[.bool (sn (na s)), .slice S1 (ln (ab (na s))) s1, .bool (sn (nb s)), .slice S2 (ln (ab (nb s))) s2, .slice S3 (ln (nd s)) s3], .slice (some ⟨b, fo, none⟩) n c, .int .i64 i, .pointer (some ⟨b, fo + i, none⟩), .slice (some ⟨ga, 0, none⟩) nq Ka, .int .i64 j, .pointer (some ⟨ga, j * 5, none⟩), .agg #[.bool (sn (na x)), .slice A1 (ln (ab (na x))) a1, .bool (sn (nb x)), .slice A2 (ln (ab (nb x))) a2, .slice A3 (ln (nd x)) a3], .slice (some ⟨b2, fo2, none⟩) nq c2, .int .i64 j, .pointer (some ⟨b2, fo2 + j, none⟩), .slice (some ⟨gb, 0, none⟩) m Kb, .int .i64 k, .pointer (some ⟨gb, k * 5, none⟩), .agg #[.bool (sn (na y)), .slice B1 (ln (ab (na y))) b1', .bool (sn (nb y)), .slice B2 (ln (ab (nb y))) b2', .slice B3 (ln (nd y)) b3'], undef, undef, .pointer (some ⟨g0, k * 5, none⟩), undef] zz undef) [0, 1, 2, 3, 4, 5, 6, 7, 8, 9, 10, 11, 12, 13, 14, 15, 16, 17, 18, 19, 20, 21, 22, 23, 24, 25, 28] ∧ Off l 29 (Below wr.heap.size wr w' ∧ On l 26 (SlotNumC w' x26 (x.mul y)) ∧ On l 27 (SlotNumC w' x27 (s.add (x.mul y)))) ∧ On l 29 (MkQ w4 gO n m n (fun _ _ => True) (fun a b => dotC f g a b (pr nq i k (j + 1) a b)) w') ∧ Edg l [(29, 28), (28, 3), (29, 27), (27, 11), (11, 10), (10, 8), (27, 26), (26, 18), (18, 17), (17, 15), (26, 25), (25, 24), (24, 22)] ∧ l.size = 30) ?_ ?_ _ _ _ _ (by decide) ?_
              · intro l a' W' i hi hI
                obtain ⟨V, x26, x27, rfl, hv, hZ, hM0, hE, hz⟩ := hI
                obtain ⟨hlt, hoff, hpre⟩ := ready_pre hi
                have hc : i ∈ [0, 1, 2, 3, 4, 5, 6, 7, 8, 9, 10, 11, 12, 13, 14, 15, 16, 17, 18, 19, 20, 21, 22, 23, 24, 25, 26, 27, 28, 29] := (by decide : ∀ i, i < 30 → i ∈ [0, 1, 2, 3, 4, 5, 6, 7, 8, 9, 10, 11, 12, 13, 14, 15, 16, 17, 18, 19, 20, 21, 22, 23, 24, 25, 26, 27, 28, 29]) i hlt
                simp only [List.mem_cons, List.not_mem_nil, or_false] at hc
                clear hi hlt
                rcases hc with rfl | rfl | rfl | rfl | rfl | rfl | rfl | rfl | rfl | rfl | rfl | rfl | rfl | rfl | rfl | rfl | rfl | rfl | rfl | rfl | rfl | rfl | rfl | rfl | rfl | rfl | rfl | rfl | rfl | rfl <;> (have hp := hpre _ rfl; simp [Region.binds] at hp; clear hpre)
                · skip
                  have HV := Lib.hid hv
                  clear hv
                  refine wpOp_go rfl rfl (fun K hK => ?_)
                  go_simp
                  refine hK _ _ ?_
                  exact ⟨_, _, _, rfl, HV.out.new (x := .slice (some ⟨gO, 0, none⟩) n n) rfl, hZ.keep.map (fun ⟨hb0, y26, y27⟩ => ⟨hb0, y26.keep (by decide), y27.keep (by decide)⟩), hM0.keep (by decide), hE.mono (by decide), by simp [hz]⟩
                · skip
                  have HV := Lib.hid hv
                  clear hv
                  refine wpOp_go rfl rfl (fun K hK => ?_)
                  go_simp
                  refine hK _ _ ?_
                  exact ⟨_, _, _, rfl, HV.out.new (x := .int .i64 i) rfl, hZ.keep.map (fun ⟨hb0, y26, y27⟩ => ⟨hb0, y26.keep (by decide), y27.keep (by decide)⟩), hM0.keep (by decide), hE.mono (by decide), by simp [hz]⟩
                · skip
                  have e0 : V 0 = .slice (some ⟨gO, 0, none⟩) n n := hv.get 0 (by decide) (by simp [hp])
                  have e1 : V 1 = .int .i64 i := hv.get 1 (by decide) (by simp [hp])
                  have HV := Lib.hid ((hv.fixE e0 rfl).fixE e1 rfl)
                  clear hv
                  simp only [e0, e1]
                  refine wpOp_go rfl rfl (fun K hK => ?_)
                  go_simp
                  refine hK _ _ ?_
                  exact ⟨_, _, _, rfl, HV.out.new (x := .pointer (some ⟨gO, i, none⟩)) rfl, hZ.keep.map (fun ⟨hb0, y26, y27⟩ => ⟨hb0, y26.keep (by decide), y27.keep (by decide)⟩), hM0.keep (by decide), hE.mono (by decide), by simp [hz]⟩
                · skip
                  have e2 : V 2 = .pointer (some ⟨gO, i, none⟩) := hv.get 2 (by decide) (by simp [hp])
                  have HV := Lib.hid (hv.fixE e2 rfl)
                  clear hv
                  simp only [e2]
                  have hY := hZ.get (fun h => off hoff (hE.get 28 3 (by decide) (hE.get 29 28 (by decide) h)))
                  have z := keepc hY.1 hg1 hg2
                  refine wpOp_go rfl rfl (fun K hK => ?_)
                  go_simp
                  refine hK _ _ ?_
                  exact ⟨_, _, _, rfl, HV.out.new (x := .slice (some ⟨g0, 0, none⟩) m m) rfl, hZ.keep.map (fun ⟨hb0, y26, y27⟩ => ⟨hb0, y26.keep (by decide), y27.keep (by decide)⟩), hM0.keep (by decide), hE.mono (by decide), by simp [hz]⟩
                · skip
                  have HV := Lib.hid hv
                  clear hv
                  refine wpOp_go rfl rfl (fun K hK => ?_)
                  go_simp
                  refine hK _ _ ?_
                  exact ⟨_, _, _, rfl, HV.out.new (x := .int .i64 k) rfl, hZ.keep.map (fun ⟨hb0, y26, y27⟩ => ⟨hb0, y26.keep (by decide), y27.keep (by decide)⟩), hM0.keep (by decide), hE.mono (by decide), by simp [hz]⟩
                · skip
                  have HV := Lib.hid hv
                  clear hv
                  refine wpOp_go rfl rfl (fun K hK => ?_)
                  go_simp
                  refine hK _ _ ?_
                  exact ⟨_, _, _, rfl, HV.out.new (x := .slice (some ⟨gO, 0, none⟩) n n) rfl, hZ.keep.map (fun ⟨hb0, y26, y27⟩ => ⟨hb0, y26.keep (by decide), y27.keep (by decide)⟩), hM0.keep (by decide), hE.mono (by decide), by simp [hz]⟩
                · skip
                  have HV := Lib.hid hv
                  clear hv
                  refine wpOp_go rfl rfl (fun K hK => ?_)
                  go_simp
                  refine hK _ _ ?_
                  exact ⟨_, _, _, rfl, HV.out.new (x := .int .i64 i) rfl, hZ.keep.map (fun ⟨hb0, y26, y27⟩ => ⟨hb0, y26.keep (by decide), y27.keep (by decide)⟩), hM0.keep (by decide), hE.mono (by decide), by simp [hz]⟩
                · skip
                  have e5 : V 5 = .slice (some ⟨gO, 0, none⟩) n n := hv.get 5 (by decide) (by simp [hp])
                  have e6 : V 6 = .int .i64 i := hv.get 6 (by decide) (by simp [hp])
                  have HV := Lib.hid ((hv.fixE e5 rfl).fixE e6 rfl)
                  clear hv
                  simp only [e5, e6]
                  refine wpOp_go rfl rfl (fun K hK => ?_)
                  go_simp
                  refine hK _ _ ?_
                  exact ⟨_, _, _, rfl, HV.out.new (x := .pointer (some ⟨gO, i, none⟩)) rfl, hZ.keep.map (fun ⟨hb0, y26, y27⟩ => ⟨hb0, y26.keep (by decide), y27.keep (by decide)⟩), hM0.keep (by decide), hE.mono (by decide), by simp [hz]⟩
                · skip
                  have e7 : V 7 = .pointer (some ⟨gO, i, none⟩) := hv.get 7 (by decide) (by simp [hp])
                  have HV := Lib.hid (hv.fixE e7 rfl)
                  clear hv
                  simp only [e7]
                  have hY := hZ.get (fun h => off hoff (hE.get 10 8 (by decide) (hE.get 11 10 (by decide) (hE.get 27 11 (by decide) (hE.get 29 27 (by decide) h)))))
                  have z := keepc hY.1 hg1 hg2
                  refine wpOp_go rfl rfl (fun K hK => ?_)
                  go_simp
                  refine hK _ _ ?_
                  exact ⟨_, _, _, rfl, HV.out.new (x := .slice (some ⟨g0, 0, none⟩) m m) rfl, hZ.keep.map (fun ⟨hb0, y26, y27⟩ => ⟨hb0, y26.keep (by decide), y27.keep (by decide)⟩), hM0.keep (by decide), hE.mono (by decide), by simp [hz]⟩
                · skip
                  have HV := Lib.hid hv
                  clear hv
                  refine wpOp_go rfl rfl (fun K hK => ?_)
                  go_simp
                  refine hK _ _ ?_
                  exact ⟨_, _, _, rfl, HV.out.new (x := .int .i64 k) rfl, hZ.keep.map (fun ⟨hb0, y26, y27⟩ => ⟨hb0, y26.keep (by decide), y27.keep (by decide)⟩), hM0.keep (by decide), hE.mono (by decide), by simp [hz]⟩
                · skip
                  have e8 : V 8 = .slice (some ⟨g0, 0, none⟩) m m := hv.get 8 (by decide) (by simp [hp])
                  have e9 : V 9 = .int .i64 k := hv.get 9 (by decide) (by simp [hp])
                  have HV := Lib.hid ((hv.fixE e8 rfl).fixE e9 rfl)
                  clear hv
                  simp only [e8, e9]
                  refine wpOp_go rfl rfl (fun K hK => ?_)
                  go_simp
                  refine hK _ _ ?_
                  exact ⟨_, _, _, rfl, HV.out.new (x := .pointer (some ⟨g0, k * 5, none⟩)) rfl, hZ.keep.map (fun ⟨hb0, y26, y27⟩ => ⟨hb0, y26.keep (by decide), y27.keep (by decide)⟩), hM0.keep (by decide), hE.step (by simp [hp]), by simp [hz]⟩
                · skip
                  have e10 : V 10 = .pointer (some ⟨g0, k * 5, none⟩) := hv.get 10 (by decide) (by simp [hp])
                  have HV := Lib.hid (hv.fixE e10 rfl)
                  clear hv
                  simp only [e10]
                  have hY := hZ.get (fun h => off hoff (hE.get 27 11 (by decide) (hE.get 29 27 (by decide) h)))
                  obtain ⟨z0, z1, z2, z3, z4⟩ := hsc
                  have y0 := keepc hY.1 z0 hg3; have y1 := keepc hY.1 z1 hg3; have y2 := keepc hY.1 z2 hg3; have y3 := keepc hY.1 z3 hg3; have y4 := keepc hY.1 z4 hg3
                  refine wpOp_go rfl rfl (fun K hK => ?_)
                  go_simp
                  refine hK _ _ ?_
                  exact ⟨_, _, _, rfl, HV.out.new (x := .agg #[.bool (sn (na s)), .slice S1 (ln (ab (na s))) s1, .bool (sn (nb s)), .slice S2 (ln (ab (nb s))) s2, .slice S3 (ln (nd s)) s3]) rfl, hZ.keep.map (fun ⟨hb0, y26, y27⟩ => ⟨hb0, y26.keep (by decide), y27.keep (by decide)⟩), hM0.keep (by decide), hE.step (by simp [hp]), by simp [hz]⟩
                · skip
                  have HV := Lib.hid hv
                  clear hv
                  refine wpOp_go rfl rfl (fun K hK => ?_)
                  go_simp
                  refine hK _ _ ?_
                  exact ⟨_, _, _, rfl, HV.out.new (x := .slice (some ⟨b, fo, none⟩) n c) rfl, hZ.keep.map (fun ⟨hb0, y26, y27⟩ => ⟨hb0, y26.keep (by decide), y27.keep (by decide)⟩), hM0.keep (by decide), hE.mono (by decide), by simp [hz]⟩
                · skip
                  have HV := Lib.hid hv
                  clear hv
                  refine wpOp_go rfl rfl (fun K hK => ?_)
                  go_simp
                  refine hK _ _ ?_
                  exact ⟨_, _, _, rfl, HV.out.new (x := .int .i64 i) rfl, hZ.keep.map (fun ⟨hb0, y26, y27⟩ => ⟨hb0, y26.keep (by decide), y27.keep (by decide)⟩), hM0.keep (by decide), hE.mono (by decide), by simp [hz]⟩
                · skip
                  have e12 : V 12 = .slice (some ⟨b, fo, none⟩) n c := hv.get 12 (by decide) (by simp [hp])
                  have e13 : V 13 = .int .i64 i := hv.get 13 (by decide) (by simp [hp])
                  have HV := Lib.hid ((hv.fixE e12 rfl).fixE e13 rfl)
                  clear hv
                  simp only [e12, e13]
                  refine wpOp_go rfl rfl (fun K hK => ?_)
                  go_simp
                  refine hK _ _ ?_
                  exact ⟨_, _, _, rfl, HV.out.new (x := .pointer (some ⟨b, fo + i, none⟩)) rfl, hZ.keep.map (fun ⟨hb0, y26, y27⟩ => ⟨hb0, y26.keep (by decide), y27.keep (by decide)⟩), hM0.keep (by decide), hE.mono (by decide), by simp [hz]⟩
                · skip
                  have e14 : V 14 = .pointer (some ⟨b, fo + i, none⟩) := hv.get 14 (by decide) (by simp [hp])
                  have HV := Lib.hid (hv.fixE e14 rfl)
                  clear hv
                  simp only [e14]
                  have hY := hZ.get (fun h => off hoff (hE.get 17 15 (by decide) (hE.get 18 17 (by decide) (hE.get 26 18 (by decide) (hE.get 27 26 (by decide) (hE.get 29 27 (by decide) h))))))
                  have z := keepc hY.1 ha2 ha1
                  refine wpOp_go rfl rfl (fun K hK => ?_)
                  go_simp
                  refine hK _ _ ?_
                  exact ⟨_, _, _, rfl, HV.out.new (x := .slice (some ⟨ga, 0, none⟩) nq Ka) rfl, hZ.keep.map (fun ⟨hb0, y26, y27⟩ => ⟨hb0, y26.keep (by decide), y27.keep (by decide)⟩), hM0.keep (by decide), hE.mono (by decide), by simp [hz]⟩
                · skip
                  have HV := Lib.hid hv
                  clear hv
                  refine wpOp_go rfl rfl (fun K hK => ?_)
                  go_simp
                  refine hK _ _ ?_
                  exact ⟨_, _, _, rfl, HV.out.new (x := .int .i64 j) rfl, hZ.keep.map (fun ⟨hb0, y26, y27⟩ => ⟨hb0, y26.keep (by decide), y27.keep (by decide)⟩), hM0.keep (by decide), hE.mono (by decide), by simp [hz]⟩
                · skip
                  have e15 : V 15 = .slice (some ⟨ga, 0, none⟩) nq Ka := hv.get 15 (by decide) (by simp [hp])
                  have e16 : V 16 = .int .i64 j := hv.get 16 (by decide) (by simp [hp])
                  have HV := Lib.hid ((hv.fixE e15 rfl).fixE e16 rfl)
                  clear hv
                  simp only [e15, e16]
                  refine wpOp_go rfl rfl (fun K hK => ?_)
                  go_simp
                  refine hK _ _ ?_
                  exact ⟨_, _, _, rfl, HV.out.new (x := .pointer (some ⟨ga, j * 5, none⟩)) rfl, hZ.keep.map (fun ⟨hb0, y26, y27⟩ => ⟨hb0, y26.keep (by decide), y27.keep (by decide)⟩), hM0.keep (by decide), hE.step (by simp [hp]), by simp [hz]⟩
                · skip
                  have e17 : V 17 = .pointer (some ⟨ga, j * 5, none⟩) := hv.get 17 (by decide) (by simp [hp])
                  have HV := Lib.hid (hv.fixE e17 rfl)
                  clear hv
                  simp only [e17]
                  have hY := hZ.get (fun h => off hoff (hE.get 26 18 (by decide) (hE.get 27 26 (by decide) (hE.get 29 27 (by decide) h))))
                  obtain ⟨z0, z1, z2, z3, z4⟩ := ha4
                  have y0 := keepc hY.1 z0 ha3; have y1 := keepc hY.1 z1 ha3; have y2 := keepc hY.1 z2 ha3; have y3 := keepc hY.1 z3 ha3; have y4 := keepc hY.1 z4 ha3
                  refine wpOp_go rfl rfl (fun K hK => ?_)
                  go_simp
                  refine hK _ _ ?_
                  exact ⟨_, _, _, rfl, HV.out.new (x := .agg #[.bool (sn (na x)), .slice A1 (ln (ab (na x))) a1, .bool (sn (nb x)), .slice A2 (ln (ab (nb x))) a2, .slice A3 (ln (nd x)) a3]) rfl, hZ.keep.map (fun ⟨hb0, y26, y27⟩ => ⟨hb0, y26.keep (by decide), y27.keep (by decide)⟩), hM0.keep (by decide), hE.step (by simp [hp]), by simp [hz]⟩
                · skip
                  have HV := Lib.hid hv
                  clear hv
                  refine wpOp_go rfl rfl (fun K hK => ?_)
                  go_simp
                  refine hK _ _ ?_
                  exact ⟨_, _, _, rfl, HV.out.new (x := .slice (some ⟨b2, fo2, none⟩) nq c2) rfl, hZ.keep.map (fun ⟨hb0, y26, y27⟩ => ⟨hb0, y26.keep (by decide), y27.keep (by decide)⟩), hM0.keep (by decide), hE.mono (by decide), by simp [hz]⟩
                · skip
                  have HV := Lib.hid hv
                  clear hv
                  refine wpOp_go rfl rfl (fun K hK => ?_)
                  go_simp
                  refine hK _ _ ?_
                  exact ⟨_, _, _, rfl, HV.out.new (x := .int .i64 j) rfl, hZ.keep.map (fun ⟨hb0, y26, y27⟩ => ⟨hb0, y26.keep (by decide), y27.keep (by decide)⟩), hM0.keep (by decide), hE.mono (by decide), by simp [hz]⟩
                · skip
                  have e19 : V 19 = .slice (some ⟨b2, fo2, none⟩) nq c2 := hv.get 19 (by decide) (by simp [hp])
                  have e20 : V 20 = .int .i64 j := hv.get 20 (by decide) (by simp [hp])
                  have HV := Lib.hid ((hv.fixE e19 rfl).fixE e20 rfl)
                  clear hv
                  simp only [e19, e20]
                  refine wpOp_go rfl rfl (fun K hK => ?_)
                  go_simp
                  refine hK _ _ ?_
                  exact ⟨_, _, _, rfl, HV.out.new (x := .pointer (some ⟨b2, fo2 + j, none⟩)) rfl, hZ.keep.map (fun ⟨hb0, y26, y27⟩ => ⟨hb0, y26.keep (by decide), y27.keep (by decide)⟩), hM0.keep (by decide), hE.mono (by decide), by simp [hz]⟩
                · skip
                  have e21 : V 21 = .pointer (some ⟨b2, fo2 + j, none⟩) := hv.get 21 (by decide) (by simp [hp])
                  have HV := Lib.hid (hv.fixE e21 rfl)
                  clear hv
                  simp only [e21]
                  have hY := hZ.get (fun h => off hoff (hE.get 24 22 (by decide) (hE.get 25 24 (by decide) (hE.get 26 25 (by decide) (hE.get 27 26 (by decide) (hE.get 29 27 (by decide) h))))))
                  have z := keepc hY.1 hb2 hb1
                  refine wpOp_go rfl rfl (fun K hK => ?_)
                  go_simp
                  refine hK _ _ ?_
                  exact ⟨_, _, _, rfl, HV.out.new (x := .slice (some ⟨gb, 0, none⟩) m Kb) rfl, hZ.keep.map (fun ⟨hb0, y26, y27⟩ => ⟨hb0, y26.keep (by decide), y27.keep (by decide)⟩), hM0.keep (by decide), hE.mono (by decide), by simp [hz]⟩
                · skip
                  have HV := Lib.hid hv
                  clear hv
                  refine wpOp_go rfl rfl (fun K hK => ?_)
                  go_simp
                  refine hK _ _ ?_
                  exact ⟨_, _, _, rfl, HV.out.new (x := .int .i64 k) rfl, hZ.keep.map (fun ⟨hb0, y26, y27⟩ => ⟨hb0, y26.keep (by decide), y27.keep (by decide)⟩), hM0.keep (by decide), hE.mono (by decide), by simp [hz]⟩
                · skip
                  have e22 : V 22 = .slice (some ⟨gb, 0, none⟩) m Kb := hv.get 22 (by decide) (by simp [hp])
                  have e23 : V 23 = .int .i64 k := hv.get 23 (by decide) (by simp [hp])
                  have HV := Lib.hid ((hv.fixE e22 rfl).fixE e23 rfl)
                  clear hv
                  simp only [e22, e23]
                  refine wpOp_go rfl rfl (fun K hK => ?_)
                  go_simp
                  refine hK _ _ ?_
                  exact ⟨_, _, _, rfl, HV.out.new (x := .pointer (some ⟨gb, k * 5, none⟩)) rfl, hZ.keep.map (fun ⟨hb0, y26, y27⟩ => ⟨hb0, y26.keep (by decide), y27.keep (by decide)⟩), hM0.keep (by decide), hE.step (by simp [hp]), by simp [hz]⟩
                · skip
                  have e24 : V 24 = .pointer (some ⟨gb, k * 5, none⟩) := hv.get 24 (by decide) (by simp [hp])
                  have HV := Lib.hid (hv.fixE e24 rfl)
                  clear hv
                  simp only [e24]
                  have hY := hZ.get (fun h => off hoff (hE.get 26 25 (by decide) (hE.get 27 26 (by decide) (hE.get 29 27 (by decide) h))))
                  obtain ⟨z0, z1, z2, z3, z4⟩ := hb4
                  have y0 := keepc hY.1 z0 hb3; have y1 := keepc hY.1 z1 hb3; have y2 := keepc hY.1 z2 hb3; have y3 := keepc hY.1 z3 hb3; have y4 := keepc hY.1 z4 hb3
                  refine wpOp_go rfl rfl (fun K hK => ?_)
                  go_simp
                  refine hK _ _ ?_
                  exact ⟨_, _, _, rfl, HV.out.new (x := .agg #[.bool (sn (na y)), .slice B1 (ln (ab (na y))) b1', .bool (sn (nb y)), .slice B2 (ln (ab (nb y))) b2', .slice B3 (ln (nd y)) b3']) rfl, hZ.keep.map (fun ⟨hb0, y26, y27⟩ => ⟨hb0, y26.keep (by decide), y27.keep (by decide)⟩), hM0.keep (by decide), hE.step (by simp [hp]), by simp [hz]⟩
                · skip
                  have e18 : V 18 = .agg #[.bool (sn (na x)), .slice A1 (ln (ab (na x))) a1, .bool (sn (nb x)), .slice A2 (ln (ab (nb x))) a2, .slice A3 (ln (nd x)) a3] := hv.get 18 (by decide) (by simp [hp])
                  have e25 : V 25 = .agg #[.bool (sn (na y)), .slice B1 (ln (ab (na y))) b1', .bool (sn (nb y)), .slice B2 (ln (ab (nb y))) b2', .slice B3 (ln (nd y)) b3'] := hv.get 25 (by decide) (by simp [hp])
                  have HV := Lib.hid ((hv.fixE e18 rfl).fixE e25 rfl)
                  clear hv
                  simp only [e18, e25]
                  have hY := hZ.get (fun h => off hoff (hE.get 27 26 (by decide) (hE.get 29 27 (by decide) h)))
                  refine wpOp_go rfl rfl (fun K hK => ?_)
                  go_wp2_with (first | (go_at_call 66; refine (rmul_any x y A1 A2 A3 B1 B2 B3 a1 a2 a3 b1' b2' b3' _ (ha5.to hY.1) (hb5.to hY.1) (Z2.out.1.mono (by decide)) (Z2.out.2.mono (by decide))).mono ?_; rintro e w3 ⟨E1, E2, E3, kk1, kk2, kk3, rfl, hN, hb⟩))
                  try refine hK _ _ ?_
                  exact ⟨_, _, _, rfl, HV.out.other (by decide), Off.new ⟨hY.1.trans (hb.mono hY.1.size), On.new (⟨E1, E2, E3, kk1, kk2, kk3, rfl, hN⟩), ((hY.2.2).keep (by decide)).map (fun h => h.to hb)⟩, fun h => absurd (hE.get 27 26 (by decide) (hE.get 29 27 (by decide) (on_ne h (by decide)))) (off hoff), hE.step (by simp [hp]), by simp [hz]⟩
                · skip
                  have e11 : V 11 = .agg #[.bool (sn (na s)), .slice S1 (ln (ab (na s))) s1, .bool (sn (nb s)), .slice S2 (ln (ab (nb s))) s2, .slice S3 (ln (nd s)) s3] := hv.get 11 (by decide) (by simp [hp])
                  have HV := Lib.hid (hv.fixE e11 rfl)
                  clear hv
                  simp only [e11]
                  have hY := hZ.get (fun h => off hoff (hE.get 29 27 (by decide) h))
                  obtain ⟨G1, G2, G3, g1, g2, g3, e0, hM⟩ := hY.2.1.get (by simp [hp])
                  subst e0
                  refine wpOp_go rfl rfl (fun K hK => ?_)
                  go_wp2_with (first | (go_at_call 65; refine (radd_any s (x.mul y) S1 S2 S3 G1 G2 G3 s1 s2 s3 g1 g2 g3 _ (hsn.to hY.1) hM (ZZ.out.1.mono (by decide)) (ZZ.out.2.mono (by decide))).mono ?_; rintro e w3 ⟨E1, E2, E3, kk1, kk2, kk3, rfl, hN, hb⟩))
                  try refine hK _ _ ?_
                  exact ⟨_, _, _, rfl, HV.out.other (by decide), Off.new ⟨hY.1.trans (hb.mono hY.1.size), ((hY.2.1).keep (by decide)).map (fun h => h.to hb), On.new (⟨E1, E2, E3, kk1, kk2, kk3, rfl, hN⟩)⟩, fun h => absurd (hE.get 29 27 (by decide) (on_ne h (by decide))) (off hoff), hE.step (by simp [hp]), by simp [hz]⟩
                · skip
                  have e3 : V 3 = .slice (some ⟨g0, 0, none⟩) m m := hv.get 3 (by decide) (by simp [hp])
                  have e4 : V 4 = .int .i64 k := hv.get 4 (by decide) (by simp [hp])
                  have HV := Lib.hid ((hv.fixE e3 rfl).fixE e4 rfl)
                  clear hv
                  simp only [e3, e4]
                  refine wpOp_go rfl rfl (fun K hK => ?_)
                  go_simp
                  refine hK _ _ ?_
                  exact ⟨_, _, _, rfl, HV.out.new (x := .pointer (some ⟨g0, k * 5, none⟩)) rfl, hZ.keep.map (fun ⟨hb0, y26, y27⟩ => ⟨hb0, y26.keep (by decide), y27.keep (by decide)⟩), hM0.keep (by decide), hE.step (by simp [hp]), by simp [hz]⟩
                · skip
                  have e28 : V 28 = .pointer (some ⟨g0, k * 5, none⟩) := hv.get 28 (by decide) (by simp [hp])
                  have HV := Lib.hid (hv.fixE e28 rfl)
                  clear hv
                  simp only [e28]
                  have hY := hZ.get (off hoff)
                  obtain ⟨E1, E2, E3, kk1, kk2, kk3, e1, hN⟩ := hY.2.2.get (by simp [hp])
                  subst e1
                  obtain ⟨⟨u0, u1, u2, u3, u4, d0, d1, d2, d3, d4⟩, ⟨f0, f1, f2, f3, f4⟩, hfin⟩ := hput W' hY.1
                  refine wpOp_go rfl rfl (fun K hK => ?_)
                  go_simp
                  refine hK _ _ ?_
                  obtain ⟨XX, hX⟩ : ∃ XX : World, XX = set5q W' g0 (k * 5) (s.add (x.mul y)) E1 E2 E3 kk1 kk2 kk3 := ⟨_, rfl⟩
                  have hw : set5q W' g0 (k * 5) (s.add (x.mul y)) E1 E2 E3 kk1 kk2 kk3 = XX := hX.symm
                  unfold set5q at hw
                  rw [hw]
                  subst hX
                  exact ⟨_, _, _, rfl, HV.out.other (by decide), Off.done (by omega), On.new (hfin (fun _ _ => True) (fun a b => dotC f g a b (pr nq i k (j + 1) a b)) _ E1 E2 E3 kk1 kk2 kk3 hN (by rw [← HS1.out, show pr nq i k (j + 1) i k = j + 1 by unfold pr; simp]) (fun a b h _ => ⟨trivial, by rw [show pr nq i k (j + 1) a b = pr nq i k j a b by unfold pr; (repeat' split) <;> omega]⟩)), hE.step (by simp [hp]), by simp [hz]⟩
              · intro l a' W' hr hI
                obtain ⟨V, x26, x27, rfl, hv, hZ, hM0, hE, hz⟩ := hI
                have a0 := not_ready (i := 0) hr hz rfl (by simp [Region.binds])
                have a1 := not_ready (i := 1) hr hz rfl (by simp [Region.binds, a0])
                have a2 := not_ready (i := 2) hr hz rfl (by simp [Region.binds, a0, a1])
                have a3 := not_ready (i := 3) hr hz rfl (by simp [Region.binds, a0, a1, a2])
                have a4 := not_ready (i := 4) hr hz rfl (by simp [Region.binds, a0, a1, a2, a3])
                have a5 := not_ready (i := 5) hr hz rfl (by simp [Region.binds, a0, a1, a2, a3, a4])
                have a6 := not_ready (i := 6) hr hz rfl (by simp [Region.binds, a0, a1, a2, a3, a4, a5])
                have a7 := not_ready (i := 7) hr hz rfl (by simp [Region.binds, a0, a1, a2, a3, a4, a5, a6])
                have a8 := not_ready (i := 8) hr hz rfl (by simp [Region.binds, a0, a1, a2, a3, a4, a5, a6, a7])
                have a9 := not_ready (i := 9) hr hz rfl (by simp [Region.binds, a0, a1, a2, a3, a4, a5, a6, a7, a8])
                have a10 := not_ready (i := 10) hr hz rfl (by simp [Region.binds, a0, a1, a2, a3, a4, a5, a6, a7, a8, a9])
                have a11 := not_ready (i := 11) hr hz rfl (by simp [Region.binds, a0, a1, a2, a3, a4, a5, a6, a7, a8, a9, a10])
                have a12 := not_ready (i := 12) hr hz rfl (by simp [Region.binds, a0, a1, a2, a3, a4, a5, a6, a7, a8, a9, a10, a11])
                have a13 := not_ready (i := 13) hr hz rfl (by simp [Region.binds, a0, a1, a2, a3, a4, a5, a6, a7, a8, a9, a10, a11, a12])
                have a14 := not_ready (i := 14) hr hz rfl (by simp [Region.binds, a0, a1, a2, a3, a4, a5, a6, a7, a8, a9, a10, a11, a12, a13])
                have a15 := not_ready (i := 15) hr hz rfl (by simp [Region.binds, a0, a1, a2, a3, a4, a5, a6, a7, a8, a9, a10, a11, a12, a13, a14])
                have a16 := not_ready (i := 16) hr hz rfl (by simp [Region.binds, a0, a1, a2, a3, a4, a5, a6, a7, a8, a9, a10, a11, a12, a13, a14, a15])
                have a17 := not_ready (i := 17) hr hz rfl (by simp [Region.binds, a0, a1, a2, a3, a4, a5, a6, a7, a8, a9, a10, a11, a12, a13, a14, a15, a16])
                have a18 := not_ready (i := 18) hr hz rfl (by simp [Region.binds, a0, a1, a2, a3, a4, a5, a6, a7, a8, a9, a10, a11, a12, a13, a14, a15, a16, a17])
                have a19 := not_ready (i := 19) hr hz rfl (by simp [Region.binds, a0, a1, a2, a3, a4, a5, a6, a7, a8, a9, a10, a11, a12, a13, a14, a15, a16, a17, a18])
                have a20 := not_ready (i := 20) hr hz rfl (by simp [Region.binds, a0, a1, a2, a3, a4, a5, a6, a7, a8, a9, a10, a11, a12, a13, a14, a15, a16, a17, a18, a19])
                have a21 := not_ready (i := 21) hr hz rfl (by simp [Region.binds, a0, a1, a2, a3, a4, a5, a6, a7, a8, a9, a10, a11, a12, a13, a14, a15, a16, a17, a18, a19, a20])
                have a22 := not_ready (i := 22) hr hz rfl (by simp [Region.binds, a0, a1, a2, a3, a4, a5, a6, a7, a8, a9, a10, a11, a12, a13, a14, a15, a16, a17, a18, a19, a20, a21])
                have a23 := not_ready (i := 23) hr hz rfl (by simp [Region.binds, a0, a1, a2, a3, a4, a5, a6, a7, a8, a9, a10, a11, a12, a13, a14, a15, a16, a17, a18, a19, a20, a21, a22])
                have a24 := not_ready (i := 24) hr hz rfl (by simp [Region.binds, a0, a1, a2, a3, a4, a5, a6, a7, a8, a9, a10, a11, a12, a13, a14, a15, a16, a17, a18, a19, a20, a21, a22, a23])
                have a25 := not_ready (i := 25) hr hz rfl (by simp [Region.binds, a0, a1, a2, a3, a4, a5, a6, a7, a8, a9, a10, a11, a12, a13, a14, a15, a16, a17, a18, a19, a20, a21, a22, a23, a24])
                have a26 := not_ready (i := 26) hr hz rfl (by simp [Region.binds, a0, a1, a2, a3, a4, a5, a6, a7, a8, a9, a10, a11, a12, a13, a14, a15, a16, a17, a18, a19, a20, a21, a22, a23, a24, a25])
                have a27 := not_ready (i := 27) hr hz rfl (by simp [Region.binds, a0, a1, a2, a3, a4, a5, a6, a7, a8, a9, a10, a11, a12, a13, a14, a15, a16, a17, a18, a19, a20, a21, a22, a23, a24, a25, a26])
                have a28 := not_ready (i := 28) hr hz rfl (by simp [Region.binds, a0, a1, a2, a3, a4, a5, a6, a7, a8, a9, a10, a11, a12, a13, a14, a15, a16, a17, a18, a19, a20, a21, a22, a23, a24, a25, a26, a27])
                have a29 := not_ready (i := 29) hr hz rfl (by simp [Region.binds, a0, a1, a2, a3, a4, a5, a6, a7, a8, a9, a10, a11, a12, a13, a14, a15, a16, a17, a18, a19, a20, a21, a22, a23, a24, a25, a26, a27, a28])
                have hY := hM0.get a29
                clear hr hz hv hZ a0 a1 a2 a3 a4 a5 a6 a7 a8 a9 a10 a11 a12 a13 a14 a15 a16 a17 a18 a19 a20 a21 a22 a23 a24 a25 a26 a27 a28 a29 hM0 hE
                go_wp2_with fail
                go_roundw
                case rel => exact ⟨j + 1, by omega, by go_num, hY⟩
                case measure => simp [intOf]; omega
              · exact ⟨fun zz => List.getD [u48, u49, u50, u51, u52, u53, u54, u55, u56, u57, u58, u59, u60, u61, u62, u63, u64, u65, u66, u67, u68, u69, u70, u71, u72, u73, u74, u75, u76, undef] zz undef, _, _, rfl, OnFix.start, Off.new ⟨((Below.refl _ _).drew), fun h => absurd h (by decide), fun h => absurd h (by decide)⟩, fun h => absurd h (by decide), Edg.start, by simp⟩
            · obtain rfl : j = nq := by omega
              go_wp2_with fail
              go_roundw
              case rel => exact ⟨k + 1, by omega, by go_num, hB.cong (fun a b _ _ _ => ⟨trivial, by
                have : pr j i (k + 1) 0 a b = pr j i k j a b := by unfold pr; (repeat' split) <;> omega
                rw [this]⟩)⟩
              case measure => simp [intOf]; omega
        · obtain rfl : k = m := by omega
          go_wp2_with fail
          go_roundw
          case rel => exact ⟨i + 1, by omega, by go_num, hB3.cong (fun a b ha hb _ => ⟨trivial, by
            have : pr nq (i + 1) 0 0 a b = pr nq i k 0 a b := by unfold pr; (repeat' split) <;> omega
            rw [this]⟩)⟩
          case measure => simp [intOf]; omega
    · obtain rfl : i = n := by omega
      go_wp2_with fail
      obtain ⟨h1, h2⟩ := (hB.cong (D' := fun _ _ => True) (f' := fun i k => dotC f g i k nq) (fun a b ha hb h => ⟨trivial, by
        have : pr nq i 0 0 a b = nq := by unfold pr; (repeat' split) <;> omega
        rw [this]⟩)).fin (fun _ _ => trivial)
      exact bodyPost_ret (v := .tuple #[.slice (some ⟨gO, 0, none⟩) i i, .int .i64 0]) (by simp [results, Tryz.results23, go_sem]) rfl ⟨_, _, rfl, h1, HB.out.trans (h2.mono HB.out.size)⟩
end Go.Proofs.YtdpjknjlhchmcaaGreat

namespace Go.Proofs.YtdpjknjlhchmcaaGreat
open Go.RowKit Pl
set_option linter.unusedVariables false
set_option linter.unusedSimpArgs false
/-- Five cells from an offset on. -/
def C5o (w : World) (g o : Nat) (v0 v1 v2 v3 v4 : Value) : Prop := w.cell? ⟨g, o, none⟩ = some v0 ∧ w.cell? ⟨g, o + 1, none⟩ = some v1 ∧ w.cell? ⟨g, o + 2, none⟩ = some v2 ∧ w.cell? ⟨g, o + 3, none⟩ = some v3 ∧ w.cell? ⟨g, o + 4, none⟩ = some v4
def Bw (S w : World) : Prop := Below S.heap.size S w
theorem Bw.to {S w w' : World} (h : Bw S w) (hb : Below w.heap.size w w') : Bw S w' := Below.trans h (hb.mono (Below.size h))
def LstP (w : World) (R : Option Addr) (n : Nat) (f : Nat → Cx) : Prop := ∀ j, j < n → ∃ g, R = some ⟨g, 0, none⟩ ∧ PE w g (j * 5) (f j)
def LstQ (w : World) (R : Option Addr) (n : Nat) (f : Nat → Cx) : Prop := ∀ j, j < n → ∃ g, R = some ⟨g, 0, none⟩ ∧ QE w g (j * 5) (f j)
theorem LstP.to {w w' : World} {R : Option Addr} {n : Nat} {f : Nat → Cx} (h : LstP w R n f) (hb : Below w.heap.size w w') : LstP w' R n f := fun j hj => by obtain ⟨g, e, p⟩ := h j hj; exact ⟨g, e, p.to hb⟩
theorem LstQ.to {w w' : World} {R : Option Addr} {n : Nat} {f : Nat → Cx} (h : LstQ w R n f) (hb : Below w.heap.size w w') : LstQ w' R n f := fun j hj => by obtain ⟨g, e, p⟩ := h j hj; exact ⟨g, e, p.to hb⟩
set_option maxRecDepth 100000 in
set_option maxHeartbeats 40000000 in
theorem areall_any (w : World) (R1 R2 : Option Addr) (n c1 c2 : Nat) (f : Nat → Cx) (hP : LstP w R1 n f) (hQ : LstQ w R2 n f) (hn : n ≤ 1000) (hz : ∀ j, j < n → sz 1000000 (f j)) :
    Calls Tryz.prog 15 #[.slice R1 n c1, .slice R2 n c2] w (RetBool w true) := by
  have HP := Lib.hid hP; have HQ := Lib.hid hQ; have HZ := Lib.hid hz
  clear hP hQ hz
  go_enter Tryz.func15, Tryz.ntmps15
  go_wp2_with fail
  go_loopw [14] (fun i (wr : World) => ∃ k : Nat, k ≤ n ∧ i = .int .i64 k ∧ Below w.heap.size w wr) (fun i _ => n - (intOf i).toNat)
  case atStart => exact ⟨0, Nat.zero_le _, rfl, Below.refl _ _⟩
  case round =>
    obtain ⟨k, hk, rfl, hB⟩ := hrel
    by_cases hlt : k < n
    · obtain ⟨g, rfl, A1, A2, A3, ⟨c0, c1', c2', c3', c4'⟩, hq⟩ := HP.out.to hB k hlt
      obtain ⟨g', rfl, B1, B2, B3, b1, b2, b3, hd, hr⟩ := HQ.out.to hB k hlt
      have zq := HZ.out k hlt
      obtain ⟨q, hqq⟩ : ∃ q, q = f k := ⟨_, rfl⟩
      rw [← hqq] at c0 c1' c2' c3' c4' hq hd hr zq
      have hlg : g' < wr.heap.size := World.block_lt_of_cell? wr ⟨g', _, none⟩ hd.1
      have i3 : (0 : Int) ≤ (k : Int) := by omega
      have i4 : (k : Int) < (n : Int) := by omega
      have HBB := Lib.hid hB
      have ZQ := Lib.hid zq
      clear hqq hB zq
      go_upto_region 6 with fail
      obtain ⟨g6, hg6⟩ : ∃ g, g = wr.heap.size := ⟨_, rfl⟩
      obtain ⟨W2, hW2⟩ : ∃ W2 : World, W2 = wr.alloc (.cells #[.bool (sn (na q)), .slice A1 (ln (ab (na q))) (ln (ab (na q))), .bool (sn (nb q)), .slice A2 (ln (ab (nb q))) (ln (ab (nb q))), .slice A3 (ln (un q)) (ln (un q))] 45) := ⟨_, rfl⟩
      have hb2 : Below wr.heap.size wr W2 := by rw [hW2]; exact (Below.refl _ _).alloc (Nat.le_refl _) _
      have hx : C5 W2 g6 (.bool (sn (na q))) (.slice A1 (ln (ab (na q))) (ln (ab (na q)))) (.bool (sn (nb q))) (.slice A2 (ln (ab (nb q))) (ln (ab (nb q)))) (.slice A3 (ln (un q)) (ln (un q))) := by subst hW2 hg6; exact ⟨by go_simp, by go_simp, by go_simp, by go_simp, by go_simp⟩
      have hl6 : g6 < W2.heap.size := by subst hW2 hg6; simp
      rw [← hg6, ← hW2]
      replace hq := hq.to hb2; replace hr := hr.to hb2
      obtain ⟨d0, d1, d2, d3, d4⟩ := hd
      replace d0 := keepc hb2 d0 hlg; replace d1 := keepc hb2 d1 hlg; replace d2 := keepc hb2 d2 hlg; replace d3 := keepc hb2 d3 hlg; replace d4 := keepc hb2 d4 hlg
      replace hlg := Nat.lt_of_lt_of_le hlg hb2.size
      have hd : C5o W2 g' (k * 5) (.bool (sn (na q))) (.slice B1 (ln (ab (na q))) b1) (.bool (sn (nb q))) (.slice B2 (ln (ab (nb q))) b2) (.slice B3 (ln (nd q)) b3) := ⟨d0, d1, d2, d3, d4⟩
      replace HBB := Lib.hid (HBB.out.trans (hb2.mono HBB.out.size))
      clear c0 c1' c2' c3' c4' d0 d1 d2 d3 d4 hb2 hW2 hg6
      refine wp_region_any (by kernel_rfl) ?_
      refine wpAny_inv (fun l a' w' => ∃ V : Nat → Value, OnAll l V (fun zz => List.getD [.agg #[.bool (sn (na q)), .slice A1 (ln (ab (na q))) (ln (ab (na q))), .bool (sn (nb q)), .slice A2 (ln (ab (nb q))) (ln (ab (nb q))), .slice A3 (ln (un q)) (ln (un q))], .slice (some ⟨g', 0, none⟩) n c2, .int .i64 k, .pointer (some ⟨g', k * 5, none⟩), .agg #[.bool (sn (na q)), .slice B1 (ln (ab (na q))) b1, .bool (sn (nb q)), .slice B2 (ln (ab (nb q))) b2, .slice B3 (ln (nd q)) b3], .bool true, .bool false] zz undef) ∧ a' = ⟨#[.slice (some ⟨g, 0, none⟩) n c1, .slice (some ⟨g', 0, none⟩) n c2, undef, undef, u4, .int .i64 k, .pointer (some ⟨g6, 0, none⟩), .slice (some ⟨g, 0, none⟩) n c1, .int .i64 n, .slice (some ⟨g', 0, none⟩) n c2, .int .i64 n, .bool false, .slice (some ⟨g, 0, none⟩) n c1, .int .i64 n, .int .i64 k, .bool true, .int .i64 k, .pointer (some ⟨g, k * 5, none⟩), .agg #[.bool (sn (na q)), .slice A1 (ln (ab (na q))) (ln (ab (na q))), .bool (sn (nb q)), .slice A2 (ln (ab (nb q))) (ln (ab (nb q))), .slice A3 (ln (un q)) (ln (un q))], V 0, V 1, V 2, V 3, V 4, V 5, V 6, u26], []⟩ ∧ (Bw W2 w') ∧ l.size = 7) ?_ ?_ _ _ _ _ (by decide) ?_
      · intro l a' W' i hi hI
        obtain ⟨V, hv, rfl, HW, hz⟩ := hI
        obtain ⟨hlt, _, hpre⟩ := ready_pre hi
        have hc : i ∈ [0, 1, 2, 3, 4, 5, 6] := (by decide : ∀ i, i < 7 → i ∈ [0, 1, 2, 3, 4, 5, 6]) i hlt
        simp only [List.mem_cons, List.not_mem_nil, or_false] at hc
        clear hi hlt
        rcases hc with rfl | rfl | rfl | rfl | rfl | rfl | rfl <;> (have hp := hpre _ rfl; simp [Region.binds] at hp; clear hpre)
        · skip
          have HV := Lib.hid hv
          clear hv hp
          obtain ⟨z0, z1, z2, z3, z4⟩ := hx
          have y0 := keepc HW z0 hl6; have y1 := keepc HW z1 hl6; have y2 := keepc HW z2 hl6; have y3 := keepc HW z3 hl6; have y4 := keepc HW z4 hl6
          refine wpOp_go rfl rfl (fun K hK => ?_)
          go_simp
          refine hK _ _ ?_
          exact ⟨_, HV.out.new (x := .agg #[.bool (sn (na q)), .slice A1 (ln (ab (na q))) (ln (ab (na q))), .bool (sn (nb q)), .slice A2 (ln (ab (nb q))) (ln (ab (nb q))), .slice A3 (ln (un q)) (ln (un q))]) rfl, rfl, HW, by simp [hz]⟩
        · skip
          have HV := Lib.hid hv
          clear hv hp
          refine wpOp_go rfl rfl (fun K hK => ?_)
          go_simp
          refine hK _ _ ?_
          exact ⟨_, HV.out.new (x := .slice (some ⟨g', 0, none⟩) n c2) rfl, rfl, HW, by simp [hz]⟩
        · skip
          have HV := Lib.hid hv
          clear hv hp
          refine wpOp_go rfl rfl (fun K hK => ?_)
          go_simp
          refine hK _ _ ?_
          exact ⟨_, HV.out.new (x := .int .i64 k) rfl, rfl, HW, by simp [hz]⟩
        · skip
          have e1 : V 1 = .slice (some ⟨g', 0, none⟩) n c2 := hv.get 1 (by simp [hp])
          have e2 : V 2 = .int .i64 k := hv.get 2 (by simp [hp])
          have HV := Lib.hid ((hv.fix e1 rfl).fix (i := 2) (x := .int .i64 k) e2 rfl)
          clear hv hp
          simp only [e1, e2]
          refine wpOp_go rfl rfl (fun K hK => ?_)
          go_simp
          refine hK _ _ ?_
          exact ⟨_, HV.out.new (x := .pointer (some ⟨g', k * 5, none⟩)) rfl, rfl, HW, by simp [hz]⟩
        · skip
          have e3 : V 3 = .pointer (some ⟨g', k * 5, none⟩) := hv.get 3 (by simp [hp])
          have HV := Lib.hid (hv.fix e3 rfl)
          clear hv hp
          simp only [e3]
          obtain ⟨z0, z1, z2, z3, z4⟩ := hd
          have y0 := keepc HW z0 hlg; have y1 := keepc HW z1 hlg; have y2 := keepc HW z2 hlg; have y3 := keepc HW z3 hlg; have y4 := keepc HW z4 hlg
          refine wpOp_go rfl rfl (fun K hK => ?_)
          go_simp
          refine hK _ _ ?_
          exact ⟨_, HV.out.new (x := .agg #[.bool (sn (na q)), .slice B1 (ln (ab (na q))) b1, .bool (sn (nb q)), .slice B2 (ln (ab (nb q))) b2, .slice B3 (ln (nd q)) b3]) rfl, rfl, HW, by simp [hz]⟩
        · skip
          have e0 : V 0 = .agg #[.bool (sn (na q)), .slice A1 (ln (ab (na q))) (ln (ab (na q))), .bool (sn (nb q)), .slice A2 (ln (ab (nb q))) (ln (ab (nb q))), .slice A3 (ln (un q)) (ln (un q))] := hv.get 0 (by simp [hp])
          have e4 : V 4 = .agg #[.bool (sn (na q)), .slice B1 (ln (ab (na q))) b1, .bool (sn (nb q)), .slice B2 (ln (ab (nb q))) b2, .slice B3 (ln (nd q)) b3] := hv.get 4 (by simp [hp])
          have HV := Lib.hid ((hv.fix e0 rfl).fix (i := 4) (x := .agg #[.bool (sn (na q)), .slice B1 (ln (ab (na q))) b1, .bool (sn (nb q)), .slice B2 (ln (ab (nb q))) b2, .slice B3 (ln (nd q)) b3]) e4 rfl)
          clear hv hp
          simp only [e0, e4]
          refine wpOp_go rfl rfl (fun K hK => ?_)
          go_wp2_with (first | (go_at_call 32; refine (is_true q A1 A2 A3 B1 B2 B3 b1 b2 b3 _ (hq.to HW) (hr.to HW) (ZQ.out.mono (by decide))).mono ?_; rintro e w1 ⟨rfl, hb⟩))
          try refine hK _ _ ?_
          exact ⟨_, HV.out.new (x := .bool true) rfl, rfl, HW.to hb, by simp [hz]⟩
        · skip
          have e5 : V 5 = .bool true := hv.get 5 (by simp [hp])
          have HV := Lib.hid (hv.fix e5 rfl)
          clear hv hp
          simp only [e5]
          refine wpOp_go rfl rfl (fun K hK => ?_)
          go_simp
          refine hK _ _ ?_
          exact ⟨_, HV.out.new (x := .bool false) rfl, rfl, HW, by simp [hz]⟩
      · intro l a' W' hr hI
        obtain ⟨V, hv, rfl, HW, hz⟩ := hI
        have a0 := not_ready (i := 0) hr hz rfl (by simp [Region.binds])
        have a1 := not_ready (i := 1) hr hz rfl (by simp [Region.binds, a0])
        have a2 := not_ready (i := 2) hr hz rfl (by simp [Region.binds, a0, a1])
        have a3 := not_ready (i := 3) hr hz rfl (by simp [Region.binds, a0, a1, a2])
        have a4 := not_ready (i := 4) hr hz rfl (by simp [Region.binds, a0, a1, a2, a3])
        have a5 := not_ready (i := 5) hr hz rfl (by simp [Region.binds, a0, a1, a2, a3, a4])
        have a6 := not_ready (i := 6) hr hz rfl (by simp [Region.binds, a0, a1, a2, a3, a4, a5])
        clear hr
        have e6 : V 6 = .bool false := hv.get 6 a6
        simp only [e6]
        clear hv hz a0 a1 a2 a3 a4 a5 a6
        go_wp2_with fail
        go_roundw
        case rel => exact ⟨k + 1, by omega, by go_num, HBB.out.trans (Below.mono HW HBB.out.size)⟩
        case measure => simp [intOf]; omega
      · exact ⟨fun zz => List.getD [u19, u20, u21, u22, u23, u24, u25] zz undef, OnAll.start, rfl, ((Below.refl _ _).drew), by simp⟩
    · obtain rfl : k = n := by omega
      go_wp2_with fail
      go_ret
      exact ⟨rfl, hB⟩
set_option maxHeartbeats 40000000 in
theorem arerows_any (w : World) (A B : Option Addr) (n c1 c2 : Nat) (N : Nat → Nat) (f : Nat → Nat → Cx) (hP : MatP w A n N f) (hQ : MatQ w B n N f) (hn : n ≤ 1000) (hN : ∀ i, i < n → N i ≤ 1000) (hz : ∀ i j, i < n → j < N i → sz 1000000 (f i j)) :
    Calls Tryz.prog 24 #[.slice A n c1, .slice B n c2] w (RetBool w true) := by
  obtain ⟨R, K, hG, hE⟩ := hP
  obtain ⟨R2, K2, hG2, hE2⟩ := hQ
  have HE := Lib.hid hE; have HE2 := Lib.hid hE2; have HZ := Lib.hid hz; have HN := Lib.hid hN; have HG := Lib.hid hG; have HG2 := Lib.hid hG2
  clear hE hE2 hz hN hG hG2
  go_enter Tryz.func24, Tryz.ntmps24
  go_wp2_with fail
  go_loopw [14] (fun i (wr : World) => ∃ k : Nat, k ≤ n ∧ i = .int .i64 k ∧ Below w.heap.size w wr) (fun i _ => n - (intOf i).toNat)
  case atStart => exact ⟨0, Nat.zero_le _, rfl, Below.refl _ _⟩
  case round =>
    obtain ⟨k, hk, rfl, hB⟩ := hrel
    by_cases hlt : k < n
    · obtain ⟨b, fo, rfl, hl, hc⟩ := HG.out k hlt
      obtain ⟨b', fo', rfl, hl', hc'⟩ := HG2.out k hlt
      have d0 := (hB.cell (p := ⟨b, _, none⟩) hl).trans hc
      have d1 := (hB.cell (p := ⟨b', _, none⟩) hl').trans hc'
      have hb1 : b < wr.heap.size := Nat.lt_of_lt_of_le hl hB.size
      have hb1' : b' < wr.heap.size := Nat.lt_of_lt_of_le hl' hB.size
      have i3 : (0 : Int) ≤ (k : Int) := by omega
      have i4 : (k : Int) < (n : Int) := by omega
      have HC := areall_any wr (R k) (R2 k) (N k) (K k) (K2 k) (f k) (fun j hj => by obtain ⟨g, e, p⟩ := HE.out k hlt j hj; exact ⟨g, e, p.to hB⟩) (fun j hj => by obtain ⟨g, e, p⟩ := HE2.out k hlt j hj; exact ⟨g, e, p.to hB⟩) (HN.out k hlt) (fun j hj => HZ.out k j hlt hj)
      clear hl hl' hc hc'
      have HBB := Lib.hid hB
      clear hB
      go_wp2_with fail
      refine HC.mono ?_
      rintro e w1 ⟨rfl, hb⟩
      go_wp2_with fail
      go_roundw
      case rel => exact ⟨k + 1, by omega, by go_num, HBB.out.trans (hb.mono HBB.out.size)⟩
      case measure => simp [intOf]; omega
    · obtain rfl : k = n := by omega
      go_wp2_with fail
      go_ret
      exact ⟨rfl, hB⟩
end Go.Proofs.YtdpjknjlhchmcaaGreat

namespace Go.Proofs.YtdpjknjlhchmcaaGreat
open Go.RowKit Pl
set_option linter.unusedVariables false
set_option linter.unusedSimpArgs false
theorem run_copy5 (w : World) (dT sT ty elem : TypeId) (g o dLen dCap : Nat) (a : Addr) (sLen sCap m : Nat) (cur : Array Value) (t : TypeId) (cs : List Value)
    (hu : Tryz.prog.underlying dT = some (.slice elem)) (hs : (Tryz.prog.info? elem).map (·.size) = some 5)
    (hg : w.heap[g]? = some (.cells cur t (0, 0))) (hm : Nat.min sLen dLen = m) (hn : cs.length = m * 5)
    (hsrc : ∀ j v, cs[j]? = some v → w.cell? (a.add j) = some v) (hfit : o + cs.length ≤ cur.size) (h1 : ∀ v ∈ cs, v.oneCell' = true) :
    (Builtin.copy_ #[dT, sT] ty #[.slice (some ⟨g, o, none⟩) dLen dCap, .slice (some a) sLen sCap]).run Tryz.prog w =
      .ok (goInt m) (w.setRow g (cur.toList.take o ++ cs ++ cur.toList.drop (o + cs.length)).toArray) := by
  have hl := run_loadCells_list (P := Tryz.prog) w a cs hsrc
  have hst := run_storeCells_at Tryz.prog g o t cs 0 cur w hg (by simpa using hfit) h1
  cases hq : Tryz.prog.info? elem with
  | none => simp [hq] at hs
  | some i =>
    have hi : i.size = 5 := by simpa [hq] using hs
    simp [Builtin.copy_, run_underlying hu, Builtin.lenOf, Builtin.firstCells, sizeOf, typeInfo, hq, hi, hm, ← hn, hl, hst]
/-- 'copy', by what it is known to do. -/
theorem wp_copy_run5 {P : Program} {o : Oper} {a : Act} {w w' : World} {K : Act → World → Prop} {Q : Exit → Act → World → Prop} {s x : Operand} {t : TypeId} {v1 v2 v' : Value}
    (ho : o.op = .call { callee := .builtin .copy, args := #[s, x], argTypes := #[t, t] }) (hs : a.eval s = v1) (hx : a.eval x = v2) (hr : (Builtin.copy_ #[t, t] o.type #[v1, v2]).run P w = .ok v' w') (h : K (a.put o.dst v') w') : o.wp P a w K Q := by
  unfold Oper.wp execOp
  simp only [ho, resolve, invoke, builtin, Sem.run_bind, Sem.run_pure, Result.andThen_ok, List.map_toArray, List.map_cons, List.map_nil, hs, hx, hr]
  exact h
/-- The first n elements of a block of c elements hold the five values. -/
def Rep5 (w : World) (g c n : Nat) (vs : List Value) : Prop := ∃ cur : Array Value, w.heap[g]? = some (.cells cur 45 (0, 0)) ∧ cur.size = c * 5 ∧ ∀ k j, k < n → j < 5 → cur[k * 5 + j]? = vs[j]?
theorem Rep5.grow {w : World} {g c n m : Nat} {vs : List Value} {cur : Array Value} (hg : w.heap[g]? = some (.cells cur 45 (0, 0))) (hc : cur.size = c * 5) (hk : ∀ k j, k < n → j < 5 → cur[k * 5 + j]? = vs[j]?) (cs : List Value) (hcs : cs.length = m * 5) (hm : ∀ k j, k < m → j < 5 → cs[k * 5 + j]? = vs[j]?) (hnm : n + m ≤ c) :
    Rep5 (w.setRow g (cur.toList.take (n * 5) ++ cs ++ cur.toList.drop (n * 5 + cs.length)).toArray) g c (n + m) vs := by
  refine ⟨_, setRow_heap w g cur _ 45 (0, 0) hg, ?_, fun k j hk2 hj => ?_⟩
  · simp [hcs, hc]; omega
  · have hl : (cur.toList.take (n * 5)).length = n * 5 := by simp [hc]; omega
    by_cases e : k < n
    · rw [List.getElem?_toArray, List.append_assoc, List.getElem?_append_left (by omega), List.getElem?_take_of_lt (by omega), Array.getElem?_toList]
      exact hk k j e hj
    · rw [List.getElem?_toArray, List.append_assoc, List.getElem?_append_right (by omega), hl, List.getElem?_append_left (by omega)]
      have := hm (k - n) j (by omega) hj
      rw [← this]
      congr 1
      omega
theorem Rep5.to {w w' : World} {g c n : Nat} {vs : List Value} (h : Rep5 w g c n vs) (hb : Below w.heap.size w w') : Rep5 w' g c n vs := by
  obtain ⟨cur, h1, h2, h3⟩ := h
  have hl : g < w.heap.size := by
    by_cases h : g < w.heap.size
    · exact h
    · rw [Array.getElem?_eq_none (by omega)] at h1; cases h1
  exact ⟨cur, (hb.block g hl).trans h1, h2, h3⟩
theorem below_setRow {B g : Nat} {a w : World} {cs : Array Value} (h : Below B a w) (hg : B ≤ g) : Below B a (w.setRow g cs) := by
  refine ⟨h.os, h.tape, h.output, by simpa [World.setRow] using h.size, fun k hk => ?_⟩
  have e : k ≠ g := by omega
  rw [← h.block k hk]
  simp [World.setRow, Array.getElem?_modify, Ne.symm e]
theorem bits_mul1 (c : Nat) (hc : c ≤ 1000) (w : World) : Calls Tryz.prog 113 #[.int .u64 1, .int .u64 c] w fun e w' => e = .returned (.tuple #[.int .u64 0, .int .u64 c]) ∧ w' = w := by
  refine (Tryz.bits_Mul 1 c (by omega) (by omega) w).mono ?_
  rintro e w' ⟨rfl, rfl⟩
  refine ⟨?_, rfl⟩
  rw [Nat.one_mul, show c / 18446744073709551616 = 0 by omega, show c % 18446744073709551616 = c by omega]
  rfl
theorem copy_rep {w : World} {g c k mn : Nat} {vs : List Value} {q : Cx} {A1 A2 A3 : Option Addr} {cur : Array Value} (hg : w.heap[g]? = some (.cells cur 45 (0, 0))) (hsz : cur.size = c * 5) (hcur : ∀ a j, a < k → j < 5 → cur[a * 5 + j]? = vs[j]?)
    (hv : vs = [.bool (sn (na q)), .slice A1 (ln (ab (na q))) (ln (ab (na q))), .bool (sn (nb q)), .slice A2 (ln (ab (nb q))) (ln (ab (nb q))), .slice A3 (ln (un q)) (ln (un q))]) (hmn : mn = Nat.min k (c - k)) (h1 : 1 ≤ mn) (hk1 : 1 ≤ k) (hlt : k < c) :
    ∃ W' : World, (Builtin.copy_ #[28, 28] 3 #[.slice (some ⟨g, k * 5, none⟩) (c - k) (c - k), .slice (some ⟨g, 0, none⟩) k c]).run Tryz.prog w = .ok (.int .i64 mn) W' ∧ Rep5 W' g c (k + mn) vs ∧ ∀ (B : Nat) (a : World), Below B a w → B ≤ g → Below B a W' := by
  have h2 : mn ≤ k ∧ mn ≤ c - k := by rw [hmn]; show min k (c - k) ≤ k ∧ min k (c - k) ≤ c - k; omega
  have hl : (cur.toList.take (mn * 5)).length = mn * 5 := by simp [hsz]; omega
  obtain ⟨ti, ki, kz, ks, kb⟩ := info_parts Tryz.info_num
  have hs5 : (Tryz.prog.info? 45).map (·.size) = some 5 := by rw [ki]; simp [ks]
  have hcs : ∀ a j, a < mn → j < 5 → (cur.toList.take (mn * 5))[a * 5 + j]? = vs[j]? := fun a j ha hj => by
    rw [List.getElem?_take_of_lt (by omega), Array.getElem?_toList]; exact hcur a j (by omega) hj
  refine ⟨_, ?_, Rep5.grow hg hsz hcur _ hl hcs (by omega), fun B a h1 h2 => below_setRow h1 h2⟩
  refine run_copy5 w 28 28 3 45 g (k * 5) (c - k) (c - k) ⟨g, 0, none⟩ k c mn cur 45 _ Tryz.und_nums hs5 hg hmn.symm hl (fun j v hj => ?_) (by rw [hl, hsz]; omega) (fun v hv2 => ?_)
  · rw [add_none j rfl, Nat.zero_add]
    have hj2 : j < mn * 5 := by
      rw [← hl]; exact (List.getElem?_eq_some_iff.1 hj).1
    rw [List.getElem?_take_of_lt hj2, Array.getElem?_toList] at hj
    simp [World.cell?, hg, hj]
  · obtain ⟨j, hj, rfl⟩ := List.getElem_of_mem hv2
    have hj2 : j < mn * 5 := by rw [← hl]; exact hj
    have e := hcs (j / 5) (j % 5) (by omega) (by omega)
    rw [show j / 5 * 5 + j % 5 = j by omega, List.getElem?_eq_getElem hj] at e
    have : j % 5 = 0 ∨ j % 5 = 1 ∨ j % 5 = 2 ∨ j % 5 = 3 ∨ j % 5 = 4 := by omega
    rw [hv] at e
    rcases this with h | h | h | h | h <;> (rw [h] at e; simp only [List.getElem?_cons_zero, List.getElem?_cons_succ, Option.some.injEq] at e; rw [e]; rfl)
theorem Rep5.lt {w : World} {g c n : Nat} {vs : List Value} (h : Rep5 w g c n vs) : g < w.heap.size := by
  obtain ⟨cur, h1, _⟩ := h
  by_cases h : g < w.heap.size
  · exact h
  · rw [Array.getElem?_eq_none (by omega)] at h1; cases h1
def RetRep (w : World) (c : Nat) (q : Cx) (e : Ending) (w' : World) : Prop := ∃ g, e = .returned (.slice (some ⟨g, 0, none⟩) c c) ∧ w.heap.size ≤ g ∧ RowB w' g 45 (c * 5) ∧ (∀ k, k < c → PE w' g (k * 5) q) ∧ Below w.heap.size w w'
set_option maxRecDepth 100000 in
set_option maxHeartbeats 40000000 in
theorem repeat_any (w : World) (b c : Nat) (q : Cx) (hq : PE w b 0 q) (h0 : 0 < c) (hc : c ≤ 1000) :
    Calls Tryz.prog 68 #[.slice (some ⟨b, 0, none⟩) 1 1, .int .i64 c] w (RetRep w c q) := by
  have hmk := mk_nums c (by omega) w
  have hlb := hq.lt
  have hbel := mkN_below w c 45
  obtain ⟨⟨F0, cur0, hgrow, hsz, _⟩, _⟩ := mkN_row w c 45 h0
  have t1 : decide ((c : Int) < 0) = false := by rw [decide_eq_false_iff_not]; omega
  have w1 : IntKind.u64.wrap (c : Int) = c := by rw [IntKind.wrap_u64]; omega
  have w2 : IntKind.i64.wrap (c : Int) = c := by rw [IntKind.wrap_i64]; omega
  have w3 : IntKind.u64.wrap (1 : Int) = 1 := by rw [IntKind.wrap_u64]; omega
  have t2 : decide ((9223372036854775807 : Int) < (c : Int)) = false := by rw [decide_eq_false_iff_not]; omega
  obtain ⟨A1, A2, A3, ⟨c0, c1, c2, c3, c4⟩, hn⟩ := hq
  replace c0 := keepc hbel c0 hlb; replace c1 := keepc hbel c1 hlb; replace c2 := keepc hbel c2 hlb; replace c3 := keepc hbel c3 hlb; replace c4 := keepc hbel c4 hlb
  obtain ⟨vs, hvs⟩ : ∃ vs : List Value, vs = [.bool (sn (na q)), .slice A1 (ln (ab (na q))) (ln (ab (na q))), .bool (sn (nb q)), .slice A2 (ln (ab (nb q))) (ln (ab (nb q))), .slice A3 (ln (un q)) (ln (un q))] := ⟨_, rfl⟩
  have hsrc : ∀ j v, vs[j]? = some v → (mkN w c 45).cell? ((⟨b, 0, none⟩ : Addr).add j) = some v := by
    intro j v hj
    rw [add_none j rfl, Nat.zero_add]
    rw [hvs] at hj
    match j, hj with
    | 0, hj => simp at hj; rw [← hj]; exact c0
    | 1, hj => simp at hj; rw [← hj]; exact c1
    | 2, hj => simp at hj; rw [← hj]; exact c2
    | 3, hj => simp at hj; rw [← hj]; exact c3
    | 4, hj => simp at hj; rw [← hj]; exact c4
    | j + 5, hj => simp at hj
  have hlen : vs.length = 5 := by rw [hvs]; rfl
  have hone : ∀ v ∈ vs, v.oneCell' = true := by
    intro v hv
    rw [hvs] at hv
    simp only [List.mem_cons, List.not_mem_nil, or_false] at hv
    rcases hv with rfl | rfl | rfl | rfl | rfl <;> rfl
  obtain ⟨ti, ki, kz, ks, kb⟩ := info_parts Tryz.info_num
  have hs5 : (Tryz.prog.info? 45).map (·.size) = some 5 := by rw [ki]; simp [ks]
  have er := run_copy5 (mkN w c 45) 28 28 3 45 w.heap.size 0 c c ⟨b, 0, none⟩ 1 1 1 cur0 45 vs Tryz.und_nums hs5 hgrow (by show Nat.min 1 c = 1; exact Nat.min_eq_left (by omega)) (by rw [hlen]) hsrc (by rw [hlen, hsz]; omega) hone
  have hR1 := Rep5.grow (n := 0) (m := 1) (c := c) (vs := vs) hgrow hsz (fun k j hk _ => absurd hk (Nat.not_lt_zero _)) vs (by rw [hlen]) (fun k j hk hj => by
    have : k = 0 := by omega
    subst this; simp) (by omega)
  have hB1 := below_setRow (cs := (cur0.toList.take (0 * 5) ++ vs ++ cur0.toList.drop (0 * 5 + vs.length)).toArray) hbel (Nat.le_refl _)
  simp only [Nat.zero_mul, Nat.zero_add] at hR1 hB1 er
  obtain ⟨W1, hW1⟩ : ∃ W1 : World, W1 = (mkN w c 45).setRow w.heap.size (List.take 0 cur0.toList ++ vs ++ List.drop vs.length cur0.toList).toArray := ⟨_, rfl⟩
  rw [← hW1] at er hR1 hB1
  clear hW1
  have HVS := Lib.hid hvs; have HN := Lib.hid hn
  have HER := Lib.hid er
  clear c0 c1 c2 c3 c4 hsrc hgrow hbel hvs hsz er kz ki kb ks hn
  go_enter Tryz.func68, Tryz.ntmps68
  go_wp2_with fail
  refine (bits_mul1 c hc _).mono ?_
  rintro e w2' ⟨rfl, rfl⟩
  go_upto_region 7 with fail
  clear hmk w1 w2 w3 t1 t2
  go_wp2_with (at_builtin; go_loud (refine wpList_plain rfl fun _ hK => wp_copy_run5 rfl rfl rfl HER.out (hK _ _ ?_)))
  rw [HER.out]
  go_wp2_with fail
  clear HER
  obtain ⟨g, hg⟩ : ∃ g, g = w2'.heap.size := ⟨_, rfl⟩
  rw [← hg] at hR1 ⊢
  have HG := Lib.hid hg
  have hB2 : Below g w2' W1 := by rw [hg]; exact hB1
  clear hg hB1
  go_wp2_with fail
  go_loopw [8] (fun v (wr : World) => ∃ k : Nat, 1 ≤ k ∧ k ≤ c ∧ v = .int .i64 k ∧ Rep5 wr g c k vs ∧ Below g w2' wr) (fun v _ => c - (intOf v).toNat)
  case atStart => exact ⟨1, Nat.le_refl _, h0, rfl, hR1, hB2⟩
  case round =>
    obtain ⟨k, hk1, hk, rfl, hR, hB⟩ := hrel
    clear hR1 hB2
    by_cases hlt : k < c
    · have hRk := hR
      obtain ⟨cur, hg1, hsz, hcur⟩ := hR
      obtain ⟨mn, hmn⟩ : ∃ mn, mn = Nat.min k (c - k) := ⟨_, rfl⟩
      have hmn1 : 1 ≤ mn := by rw [hmn]; show 1 ≤ min k (c - k); omega
      have hmn2 : mn ≤ k ∧ mn ≤ c - k := by rw [hmn]; show min k (c - k) ≤ k ∧ min k (c - k) ≤ c - k; omega
      have i1 : (0 : Int) ≤ (k : Int) := by omega
      have i2 : (k : Int) ≤ (c : Int) := by omega
      have i5 : ¬ c = k := by omega
      obtain ⟨kn, hkn⟩ : ∃ kn, kn = k + mn := ⟨_, rfl⟩
      have hwr : IntKind.i64.wrap ((k : Int) + (mn : Int)) = (kn : Int) := by rw [IntKind.wrap_i64, hkn]; omega
      have HKN := Lib.hid hkn
      have HMN := Lib.hid hmn
      clear hkn
      have HRK := Lib.hid hRk; have HBB := Lib.hid hB
      clear hmn hRk hB hcur hg1 hsz
      go_upto_region 9 with fail
      refine wp_region_any (by kernel_rfl) ?_
      refine wpAny_inv (fun l a' w' => ∃ V : Nat → Value, ∃ x7 x9 : Value, a' = ⟨#[.slice (some ⟨b, 0, none⟩) 1 1, .int .i64 ↑c, undef, undef, .slice none 0 0, .int .u64 0, .int .u64 ↑c, .slice (some ⟨g, 0, none⟩) c c, x9, .int .i64 ↑c, .bool false, undef, .tuple #[.int .u64 0, .int .u64 ↑c], .slice (some ⟨b, 0, none⟩) 1 1, .int .i64 1, .int .u64 1, .int .i64 ↑c, .int .u64 ↑c, .tuple #[.int .u64 0, .int .u64 ↑c], .int .u64 0, .int .u64 ↑c, .int .u64 0, .bool false, .bool false, .int .u64 ↑c, .bool false, .bool false, undef, .int .u64 ↑c, .int .i64 ↑c, .slice (some ⟨g, 0, none⟩) c c, .slice (some ⟨g, 0, none⟩) c c, .slice (some ⟨b, 0, none⟩) 1 1, .int .i64 1, .int .i64 ↑k, .slice (some ⟨g, 0, none⟩) c c, .int .i64 ↑c, .bool true, V 0, V 1, V 2, V 3, V 4, V 5, V 6, x7, V 8, undef], []⟩ ∧ OnFix l V (fun zz => List.getD [.int .i64 k, .slice (some ⟨g, 0, none⟩) c c, .int .i64 k, .slice (some ⟨g, k * 5, none⟩) (c - k) (c - k), .slice (some ⟨g, 0, none⟩) c c, .int .i64 k, .slice (some ⟨g, 0, none⟩) k c, undef, .int .i64 kn, undef] zz undef) [0, 1, 2, 3, 4, 5, 6, 8] ∧ Off l 7 (Below wr.heap.size wr w') ∧ On l 7 (x7 = .int .i64 mn ∧ Rep5 w' g c kn vs ∧ Below g w2' w') ∧ Off l 9 (x9 = .int .i64 k) ∧ On l 9 (x9 = .int .i64 kn) ∧ Edg l [(9, 8), (8, 0), (8, 7), (7, 3), (3, 2), (7, 6), (6, 5)] ∧ l.size = 10) ?_ ?_ _ _ _ _ (by decide) ?_
      · intro l a' W' i hi hI
        obtain ⟨V, x7, x9, rfl, hv, hZ, hM0, hA9, hB9, hE, hz⟩ := hI
        obtain ⟨hlt, hoff, hpre⟩ := ready_pre hi
        have hc : i ∈ [0, 1, 2, 3, 4, 5, 6, 7, 8, 9] := (by decide : ∀ i, i < 10 → i ∈ [0, 1, 2, 3, 4, 5, 6, 7, 8, 9]) i hlt
        simp only [List.mem_cons, List.not_mem_nil, or_false] at hc
        clear hi hlt
        rcases hc with rfl | rfl | rfl | rfl | rfl | rfl | rfl | rfl | rfl | rfl <;> (have hp := hpre _ rfl; simp [Region.binds] at hp; clear hpre)
        · skip
          have HV := Lib.hid hv
          clear hv
          have e0 := hA9.get (fun h => off hoff (hE.get 8 0 (by decide) (hE.get 9 8 (by decide) h))); subst e0
          refine wpOp_go rfl rfl (fun K hK => ?_)
          go_simp
          refine hK _ _ ?_
          exact ⟨_, _, _, rfl, HV.out.new (x := .int .i64 k) rfl, hZ.keep, hM0.keep (by decide), hA9.keep, fun h => absurd (hE.get 8 0 (by decide) (hE.get 9 8 (by decide) (on_ne h (by decide)))) (off hoff), hE.mono (by decide), by simp [hz]⟩
        · skip
          have HV := Lib.hid hv
          clear hv
          refine wpOp_go rfl rfl (fun K hK => ?_)
          go_simp
          refine hK _ _ ?_
          exact ⟨_, _, _, rfl, HV.out.new (x := .slice (some ⟨g, 0, none⟩) c c) rfl, hZ.keep, hM0.keep (by decide), hA9.keep, hB9.keep (j := 1) (by decide), hE.mono (by decide), by simp [hz]⟩
        · skip
          have HV := Lib.hid hv
          clear hv
          have e0 := hA9.get (fun h => off hoff (hE.get 3 2 (by decide) (hE.get 7 3 (by decide) (hE.get 8 7 (by decide) (hE.get 9 8 (by decide) h))))); subst e0
          refine wpOp_go rfl rfl (fun K hK => ?_)
          go_simp
          refine hK _ _ ?_
          exact ⟨_, _, _, rfl, HV.out.new (x := .int .i64 k) rfl, hZ.keep, hM0.keep (by decide), hA9.keep, fun h => absurd (hE.get 3 2 (by decide) (hE.get 7 3 (by decide) (hE.get 8 7 (by decide) (hE.get 9 8 (by decide) (on_ne h (by decide)))))) (off hoff), hE.mono (by decide), by simp [hz]⟩
        · skip
          have e1 : V 1 = .slice (some ⟨g, 0, none⟩) c c := hv.get 1 (by decide) (by simp [hp])
          have e2 : V 2 = .int .i64 k := hv.get 2 (by decide) (by simp [hp])
          have HV := Lib.hid ((hv.fixE e1 rfl).fixE e2 rfl)
          clear hv
          simp only [e1, e2]
          refine wpOp_go rfl rfl (fun K hK => ?_)
          go_simp
          refine hK _ _ ?_
          exact ⟨_, _, _, rfl, HV.out.new (x := .slice (some ⟨g, k * 5, none⟩) (c - k) (c - k)) rfl, hZ.keep, hM0.keep (by decide), hA9.keep, hB9.keep (j := 3) (by decide), hE.step (by simp [hp]), by simp [hz]⟩
        · skip
          have HV := Lib.hid hv
          clear hv
          refine wpOp_go rfl rfl (fun K hK => ?_)
          go_simp
          refine hK _ _ ?_
          exact ⟨_, _, _, rfl, HV.out.new (x := .slice (some ⟨g, 0, none⟩) c c) rfl, hZ.keep, hM0.keep (by decide), hA9.keep, hB9.keep (j := 4) (by decide), hE.mono (by decide), by simp [hz]⟩
        · skip
          have HV := Lib.hid hv
          clear hv
          have e0 := hA9.get (fun h => off hoff (hE.get 6 5 (by decide) (hE.get 7 6 (by decide) (hE.get 8 7 (by decide) (hE.get 9 8 (by decide) h))))); subst e0
          refine wpOp_go rfl rfl (fun K hK => ?_)
          go_simp
          refine hK _ _ ?_
          exact ⟨_, _, _, rfl, HV.out.new (x := .int .i64 k) rfl, hZ.keep, hM0.keep (by decide), hA9.keep, fun h => absurd (hE.get 6 5 (by decide) (hE.get 7 6 (by decide) (hE.get 8 7 (by decide) (hE.get 9 8 (by decide) (on_ne h (by decide)))))) (off hoff), hE.mono (by decide), by simp [hz]⟩
        · skip
          have e4 : V 4 = .slice (some ⟨g, 0, none⟩) c c := hv.get 4 (by decide) (by simp [hp])
          have e5 : V 5 = .int .i64 k := hv.get 5 (by decide) (by simp [hp])
          have HV := Lib.hid ((hv.fixE e4 rfl).fixE e5 rfl)
          clear hv
          simp only [e4, e5]
          refine wpOp_go rfl rfl (fun K hK => ?_)
          go_simp
          refine hK _ _ ?_
          exact ⟨_, _, _, rfl, HV.out.new (x := .slice (some ⟨g, 0, none⟩) k c) rfl, hZ.keep, hM0.keep (by decide), hA9.keep, hB9.keep (j := 6) (by decide), hE.step (by simp [hp]), by simp [hz]⟩
        · skip
          have e3 : V 3 = .slice (some ⟨g, k * 5, none⟩) (c - k) (c - k) := hv.get 3 (by decide) (by simp [hp])
          have e6 : V 6 = .slice (some ⟨g, 0, none⟩) k c := hv.get 6 (by decide) (by simp [hp])
          have HV := Lib.hid ((hv.fixE e3 rfl).fixE e6 rfl)
          clear hv
          simp only [e3, e6]
          have hY := hZ.get (off hoff)
          obtain ⟨cur, hg1, hsz, hcur⟩ := HRK.out.to hY
          obtain ⟨W9, er, hR2, hB9'⟩ := copy_rep hg1 hsz hcur HVS.out HMN.out hmn1 hk1 hlt
          refine wpOp_go rfl rfl (fun K hK => ?_)
          refine wp_copy_run5 rfl rfl rfl er ?_
          go_simp
          refine hK _ _ ?_
          exact ⟨_, _, _, rfl, HV.out.other (by decide), Off.done (by omega), On.new (⟨rfl, by rw [HKN.out]; exact hR2, hB9' _ _ (HBB.out.trans (hY.mono (by have := HRK.out.lt; omega))) (Nat.le_refl _)⟩), hA9.keep, hB9.keep (j := 7) (by decide), hE.step (by simp [hp]), by simp [hz]⟩
        · skip
          have e0 : V 0 = .int .i64 k := hv.get 0 (by decide) (by simp [hp])
          have HV := Lib.hid (hv.fixE e0 rfl)
          clear hv
          simp only [e0]
          have hx7 := (hM0.get (by simp [hp])).1
          subst hx7
          refine wpOp_go rfl rfl (fun K hK => ?_)
          go_simp
          refine hK _ _ ?_
          exact ⟨_, _, _, rfl, HV.out.new (x := .int .i64 kn) rfl, hZ.keep, hM0.keep (by decide), hA9.keep, hB9.keep (j := 8) (by decide), hE.step (by simp [hp]), by simp [hz]⟩
        · skip
          have e8 : V 8 = .int .i64 kn := hv.get 8 (by decide) (by simp [hp])
          have HV := Lib.hid (hv.fixE e8 rfl)
          clear hv
          simp only [e8]
          refine wpOp_go rfl rfl (fun K hK => ?_)
          go_simp
          refine hK _ _ ?_
          exact ⟨_, _, _, rfl, HV.out.other (by decide), hZ.keep, hM0.keep (by decide), Off.done (by omega), On.new rfl, hE.step (by simp [hp]), by simp [hz]⟩
      · intro l a' W' hr hI
        obtain ⟨V, x7, x9, rfl, hv, hZ, hM0, hA9, hB9, hE, hz⟩ := hI
        have a0 := not_ready (i := 0) hr hz rfl (by simp [Region.binds])
        have a1 := not_ready (i := 1) hr hz rfl (by simp [Region.binds, a0])
        have a2 := not_ready (i := 2) hr hz rfl (by simp [Region.binds, a0, a1])
        have a3 := not_ready (i := 3) hr hz rfl (by simp [Region.binds, a0, a1, a2])
        have a4 := not_ready (i := 4) hr hz rfl (by simp [Region.binds, a0, a1, a2, a3])
        have a5 := not_ready (i := 5) hr hz rfl (by simp [Region.binds, a0, a1, a2, a3, a4])
        have a6 := not_ready (i := 6) hr hz rfl (by simp [Region.binds, a0, a1, a2, a3, a4, a5])
        have a7 := not_ready (i := 7) hr hz rfl (by simp [Region.binds, a0, a1, a2, a3, a4, a5, a6])
        have a8 := not_ready (i := 8) hr hz rfl (by simp [Region.binds, a0, a1, a2, a3, a4, a5, a6, a7])
        have a9 := not_ready (i := 9) hr hz rfl (by simp [Region.binds, a0, a1, a2, a3, a4, a5, a6, a7, a8])
        have hY := hM0.get a7
        have hX9 := hB9.get a9
        clear hr hz hv hZ a0 a1 a2 a3 a4 a5 a6 a7 a8 a9 hM0 hA9 hB9 hE
        subst hX9
        go_wp2_with fail
        go_roundw
        case rel => exact ⟨kn, by have := HKN.out; omega, by have := HKN.out; omega, rfl, hY.2.1, hY.2.2⟩
        case measure => simp [intOf]; have := HKN.out; omega
      · exact ⟨fun zz => List.getD [u38, u39, u40, u41, u42, u43, u44, u45, u46, Value.int IntKind.i64 ↑k] zz undef, _, _, rfl, OnFix.start, Off.new (((Below.refl _ _).drew)), fun h => absurd h (by decide), Off.new rfl, fun h => absurd h (by decide), Edg.start, by simp⟩
    · obtain rfl : k = c := by omega
      go_wp2_with fail
      go_ret
      obtain ⟨cur, hg1, hsz, hcur⟩ := hR
      have hcell : ∀ a j, a < k → j < 5 → wr.cell? ⟨g, a * 5 + j, none⟩ = vs[j]? := by
        intro a j ha hj
        rw [← hcur a j ha hj]
        simp [World.cell?, hg1]
      rw [HG.out] at hB
      refine ⟨g, rfl, by rw [HG.out]; exact Nat.le_refl _, ?_, fun a ha => ?_, hB⟩
      · refine ⟨⟨fun i => cur.getD i undef, cur, hg1, hsz, fun i hi => ?_⟩, sn (na q), ?_⟩
        · show cur[i]? = some (cur.getD i undef)
          rw [Array.getElem?_eq_getElem (by omega), Array.getD_eq_getD_getElem?, Array.getElem?_eq_getElem (by omega), Option.getD_some]
        · have := hcell 0 0 h0 (by omega)
          rw [HVS.out] at this
          simpa using this
      · have k0 := hcell a 0 ha (by omega); have k1 := hcell a 1 ha (by omega); have k2 := hcell a 2 ha (by omega); have k3 := hcell a 3 ha (by omega); have k4 := hcell a 4 ha (by omega)
        rw [HVS.out] at k0 k1 k2 k3 k4
        exact ⟨A1, A2, A3, ⟨by simpa using k0, by simpa using k1, by simpa using k2, by simpa using k3, by simpa using k4⟩, HN.out.to hB⟩
end Go.Proofs.YtdpjknjlhchmcaaGreat

namespace Go.Proofs.YtdpjknjlhchmcaaGreat
open Go.RowKit Pl
set_option linter.unusedVariables false
set_option linter.unusedSimpArgs false
/-- The first r rows are made; entry (i, k) is f i k where D says so. -/
def MkP (w0 : World) (gO n m r : Nat) (D : Nat → Nat → Prop) (f : Nat → Nat → Cx) (w : World) : Prop :=
  w0.heap.size ≤ gO ∧ gO < w.heap.size ∧ (∃ F, w.rowIs gO 28 n F) ∧
  (∃ G : Nat → Nat, (∀ i, i < n → i < r → w.cell? ⟨gO, i, none⟩ = some (.slice (some ⟨G i, 0, none⟩) m m) ∧ w0.heap.size ≤ G i ∧ G i ≠ gO ∧ G i < w.heap.size ∧ (0 < m → RowB w (G i) 45 (m * 5)) ∧ ∀ k, k < m → D i k → PE w (G i) (k * 5) (f i k)) ∧
    (∀ i, i < n → r ≤ i → w.cell? ⟨gO, i, none⟩ = some (.slice none 0 0)) ∧ (∀ i k, i < n → k < n → i < r → k < r → G i = G k → i = k)) ∧ Below w0.heap.size w0 w
theorem MkP.to {w0 w w' : World} {gO n m r : Nat} {D : Nat → Nat → Prop} {f : Nat → Nat → Cx} (h : MkP w0 gO n m r D f w) (hb : Below w.heap.size w w') : MkP w0 gO n m r D f w' := by
  obtain ⟨h1, h2, ⟨F, h3⟩, ⟨G, h4, h5, h6⟩, h7⟩ := h
  exact ⟨h1, Nat.lt_of_lt_of_le h2 hb.size, ⟨F, h3.of_block (hb.block gO h2)⟩, ⟨G, fun i hi hr => by
    obtain ⟨a1, a2, a3, a4, a5, a6⟩ := h4 i hi hr
    exact ⟨keepc hb a1 h2, a2, a3, Nat.lt_of_lt_of_le a4 hb.size, fun hm => (a5 hm).to hb, fun k hk hd => (a6 k hk hd).to hb⟩, fun i hi hr => keepc hb (h5 i hi hr) h2, h6⟩, h7.trans (hb.mono h7.size)⟩
theorem MkP.new {w : World} {n m : Nat} {D : Nat → Nat → Prop} {f : Nat → Nat → Cx} : MkP w w.heap.size n m 0 D f (mkS w n 28) := by
  have h := mkS_row w n 28
  exact ⟨Nat.le_refl _, by rw [mkS_size]; omega, ⟨_, h⟩, ⟨fun _ => 0, fun i _ hr => absurd hr (Nat.not_lt_zero _), fun i hi _ => h.cell hi, fun i k _ _ h => absurd h (Nat.not_lt_zero _)⟩, mkS_below _ _ _⟩
theorem MkP.at {w0 w : World} {gO n m r : Nat} {D : Nat → Nat → Prop} {f : Nat → Nat → Cx} (h : MkP w0 gO n m r D f w) {i : Nat} (hi : i < n) : ∃ v, w.cell? ⟨gO, i, none⟩ = some v ∧ w.frozen? ⟨gO, i, none⟩ = false := by
  obtain ⟨_, _, ⟨F, h3⟩, _⟩ := h
  exact ⟨_, h3.cell hi, h3.frozen i⟩
/-- An entry is stored. -/
theorem MkP.put {w0 W : World} {gO n m r i k : Nat} {D : Nat → Nat → Prop} {f : Nat → Nat → Cx} (h : MkP w0 gO n m r D f W) (hi : i < n) (hr : i < r) (hk : k < m) :
    ∃ g, W.cell? ⟨gO, i, none⟩ = some (.slice (some ⟨g, 0, none⟩) m m) ∧ gO < W.heap.size ∧ g < W.heap.size ∧ (D i k → PE W g (k * 5) (f i k)) ∧ ∀ w, Below W.heap.size W w →
      (∃ u0 u1 u2 u3 u4, w.cell? ⟨g, k * 5, none⟩ = some u0 ∧ w.cell? ⟨g, k * 5 + 1, none⟩ = some u1 ∧ w.cell? ⟨g, k * 5 + 2, none⟩ = some u2 ∧ w.cell? ⟨g, k * 5 + 3, none⟩ = some u3 ∧ w.cell? ⟨g, k * 5 + 4, none⟩ = some u4) ∧
      (w.frozen? ⟨g, k * 5, none⟩ = false ∧ w.frozen? ⟨g, k * 5 + 1, none⟩ = false ∧ w.frozen? ⟨g, k * 5 + 2, none⟩ = false ∧ w.frozen? ⟨g, k * 5 + 3, none⟩ = false ∧ w.frozen? ⟨g, k * 5 + 4, none⟩ = false) ∧
      ∀ (D' : Nat → Nat → Prop) (f' : Nat → Nat → Cx) (q : Cx) (A1 A2 A3 : Option Addr), Num3 w A1 A2 A3 q → f' i k = q → (∀ a b, ¬ (a = i ∧ b = k) → D' a b → D a b ∧ f' a b = f a b) → MkP w0 gO n m r D' f' (set5o w g (k * 5) q A1 A2 A3) := by
  have hW := h
  obtain ⟨h1, h2, _, ⟨G, h4, h5, h6⟩, _⟩ := hW
  obtain ⟨a1, a2, a3, a4, a5, a6⟩ := h4 i hi hr
  refine ⟨G i, a1, h2, a4, a6 k hk, fun w hb => ?_⟩
  obtain ⟨k1, k2, ⟨F, k3⟩, _, k7⟩ := h.to hb
  have hrow := (a5 (by omega)).to hb
  obtain ⟨⟨F2, q1⟩, c, q2⟩ := hrow
  have e5 : k * 5 + 5 ≤ m * 5 := by omega
  refine ⟨⟨_, _, _, _, _, q1.cell (by omega), q1.cell (by omega), q1.cell (by omega), q1.cell (by omega), q1.cell (by omega)⟩, ⟨q1.frozen _, q1.frozen _, q1.frozen _, q1.frozen _, q1.frozen _⟩, fun D' f' q A1 A2 A3 hq hf hD => ?_⟩
  have g4 : ∀ j, j < n → j < r → w.cell? ⟨gO, j, none⟩ = some (.slice (some ⟨G j, 0, none⟩) m m) ∧ w0.heap.size ≤ G j ∧ G j ≠ gO ∧ G j < w.heap.size ∧ (0 < m → RowB w (G j) 45 (m * 5)) ∧ ∀ k, k < m → D j k → PE w (G j) (k * 5) (f j k) := fun j hj hjr => by
    obtain ⟨b1, b2, b3, b4, b5, b6⟩ := h4 j hj hjr
    exact ⟨keepc hb b1 h2, b2, b3, Nat.lt_of_lt_of_le b4 hb.size, fun hm => (b5 hm).to hb, fun k hk hd => (b6 k hk hd).to hb⟩
  refine ⟨k1, by rw [set5o_size]; exact k2, ?_, ⟨G, fun j hj hjr => ?_, fun j hj hjr => set5o_cell (keepc hb (h5 j hj hjr) h2) (.inl (Ne.symm a3)), h6⟩, set5o_below k7 a2⟩
  · exact ⟨F, ((((k3.setOther (a := ⟨G i, k * 5, none⟩) (Ne.symm a3) _).setOther (a := ⟨G i, k * 5 + 1, none⟩) (Ne.symm a3) _).setOther (a := ⟨G i, k * 5 + 2, none⟩) (Ne.symm a3) _).setOther (a := ⟨G i, k * 5 + 3, none⟩) (Ne.symm a3) _).setOther (a := ⟨G i, k * 5 + 4, none⟩) (Ne.symm a3) _⟩
  · obtain ⟨b1, b2, b3, b4, b5, b6⟩ := g4 j hj hjr
    refine ⟨set5o_cell b1 (.inl (Ne.symm a3)), b2, b3, by rw [set5o_size]; exact b4, fun hm => (b5 hm).set5o, fun l hl hd => ?_⟩
    by_cases e : j = i ∧ l = k
    · obtain ⟨rfl, rfl⟩ := e
      rw [hf]
      exact pe_set q1 e5 q2 hq
    · obtain ⟨d1, d2⟩ := hD j l e hd
      rw [d2]
      refine (b6 l hl d1).set5o ?_ q2
      by_cases ej : j = i
      · subst ej
        right
        have : l ≠ k := fun e2 => e ⟨rfl, e2⟩
        omega
      · left
        intro e2
        exact ej (h6 j i hj hi hjr hr e2)
theorem MkP.fin {w0 w : World} {gO n m : Nat} {D : Nat → Nat → Prop} {f : Nat → Nat → Cx} (h : MkP w0 gO n m n D f w) (hD : ∀ i k, D i k) : MatP w (some ⟨gO, 0, none⟩) n (fun _ => m) f ∧ Below w0.heap.size w0 w := by
  obtain ⟨h1, h2, _, ⟨G, h4, _, _⟩, h7⟩ := h
  exact ⟨⟨fun i => some ⟨G i, 0, none⟩, fun _ => m, fun i hi => ⟨gO, 0, rfl, h2, by rw [Nat.zero_add]; exact (h4 i hi hi).1⟩, fun i hi j hj => ⟨_, rfl, (h4 i hi hi).2.2.2.2.2 j hj (hD i j)⟩⟩, h7⟩
theorem MkP.cong {w0 w : World} {gO n m r : Nat} {D D' : Nat → Nat → Prop} {f f' : Nat → Nat → Cx} (h : MkP w0 gO n m r D f w) (hd : ∀ i k, i < r → k < m → D' i k → D i k ∧ f' i k = f i k) : MkP w0 gO n m r D' f' w := by
  obtain ⟨h1, h2, h3, ⟨G, h4, h5, h6⟩, h7⟩ := h
  exact ⟨h1, h2, h3, ⟨G, fun i hi hr => by
    obtain ⟨a1, a2, a3, a4, a5, a6⟩ := h4 i hi hr
    exact ⟨a1, a2, a3, a4, a5, fun k hk hk2 => by rw [(hd i k hr hk hk2).2]; exact a6 k hk (hd i k hr hk hk2).1⟩, h5, h6⟩, h7⟩
theorem MkP.below {w0 w : World} {gO n m r : Nat} {D : Nat → Nat → Prop} {f : Nat → Nat → Cx} (h : MkP w0 gO n m r D f w) : Below w0.heap.size w0 w := h.2.2.2.2
/-- A row that was made elsewhere is put in. -/
theorem MkP.rowR {w0 We w : World} {gO n m r g : Nat} {D : Nat → Nat → Prop} {f : Nat → Nat → Cx} (h : MkP w0 gO n m r D f We) (hr : r < n) (hb : Below We.heap.size We w) (hg : We.heap.size ≤ g) (hgl : g < w.heap.size) (hrow : 0 < m → RowB w g 45 (m * 5)) (hpe : ∀ k, k < m → D r k → PE w g (k * 5) (f r k)) :
    MkP w0 gO n m (r + 1) D f (w.setCell ⟨gO, r, none⟩ (.slice (some ⟨g, 0, none⟩) m m)) := by
  have h2 := h.to hb
  obtain ⟨_, a2, _, ⟨G0, a4, n5, a6⟩, _⟩ := h
  obtain ⟨h1, h3, ⟨F, h4⟩, _, h8⟩ := h2
  have hold : ∀ i, i < n → i < r → w.cell? ⟨gO, i, none⟩ = some (.slice (some ⟨G0 i, 0, none⟩) m m) ∧ w0.heap.size ≤ G0 i ∧ G0 i ≠ gO ∧ G0 i < We.heap.size ∧ (0 < m → RowB w (G0 i) 45 (m * 5)) ∧ ∀ k, k < m → D i k → PE w (G0 i) (k * 5) (f i k) := fun i hi hi2 => by
    obtain ⟨b1, b2, b3, b4, b5, b6⟩ := a4 i hi hi2
    exact ⟨keepc hb b1 a2, b2, b3, b4, fun hm => (b5 hm).to hb, fun k hk hd => (b6 k hk hd).to hb⟩
  have hnil : ∀ i, i < n → r ≤ i → w.cell? ⟨gO, i, none⟩ = some (.slice none 0 0) := fun i hi hi2 => keepc hb (n5 i hi hi2) a2
  have hS : ∃ (S : Option Addr) (a b : Nat), w.cell? ⟨gO, 0, none⟩ = some (.slice S a b) := by
    by_cases h0 : 0 < r
    · exact ⟨_, _, _, (hold 0 (by omega) h0).1⟩
    · exact ⟨_, _, _, hnil 0 (by omega) (by omega)⟩
  obtain ⟨S, sa, sb, hS⟩ := hS
  have u := hnil r hr (Nat.le_refl _)
  have hsz := hb.size
  refine ⟨h1, by simpa [World.setCell] using h3, ⟨_, h4.set _ _⟩, ⟨fun i => if i = r then g else G0 i, fun i hi hi2 => ?_, fun i hi hi2 => keepo (hnil i hi (by omega)) (.inr (by omega)), fun i k hi hk hi2 hk2 he => ?_⟩, h8.setCell h1 _⟩
  · by_cases e : i = r
    · subst e
      simp only [if_pos]
      refine ⟨cell_self u, Nat.le_trans h1 (by omega), by omega, by simpa [World.setCell] using hgl, fun hm => ?_, fun k hk hd => (hpe k hk hd).setS (by omega) hS⟩
      obtain ⟨⟨F2, q1⟩, c, q2⟩ := hrow hm
      exact ⟨⟨F2, q1.setOther (a := ⟨gO, i, none⟩) (by show g ≠ gO; omega) _⟩, c, keepo q2 (.inl (by omega))⟩
    · simp only [if_neg e]
      obtain ⟨b1, b2, b3, b4, b5, b6⟩ := hold i hi (by omega)
      refine ⟨keepo b1 (.inr (by omega)), b2, b3, by simp [World.setCell]; omega, fun hm => ?_, fun k hk hd => (b6 k hk hd).setS b3 hS⟩
      obtain ⟨⟨F2, q1⟩, c, q2⟩ := b5 hm
      exact ⟨⟨F2, q1.setOther (a := ⟨gO, r, none⟩) b3 _⟩, c, keepo q2 (.inl b3)⟩
  · by_cases ei : i = r <;> by_cases ek : k = r
    · omega
    · simp only [if_pos ei, if_neg ek] at he
      have := (hold k hk (by omega)).2.2.2.1
      omega
    · simp only [if_pos ek, if_neg ei] at he
      have := (hold i hi (by omega)).2.2.2.1
      omega
    · simp only [if_neg ei, if_neg ek] at he
      exact a6 i k hi hk (by omega) (by omega) he
end Go.Proofs.YtdpjknjlhchmcaaGreat

namespace Go.Proofs.YtdpjknjlhchmcaaGreat
open Go.RowKit Pl
set_option linter.unusedVariables false
set_option linter.unusedSimpArgs false
/-- The identity's size and entries. -/
def idn (n : Int) : Nat := if n < 0 then 0 else if 32 < n then 32 else n.toNat
def idm (i j : Nat) : Cx := if i = j then Cx.ofInt 1 else Cx.ofInt 0
theorem id_step {a b i : Nat} (h : ¬ (a = i ∧ b = i)) : (if a = b ∧ a < i + 1 then Cx.ofInt 1 else Cx.ofInt 0) = if a = b ∧ a < i then Cx.ofInt 1 else Cx.ofInt 0 := by
  by_cases e : a = b
  · subst e
    have : (a < i + 1) ↔ (a < i) := ⟨fun h2 => by
      by_cases e2 : a = i
      · exact absurd ⟨e2, e2⟩ h
      · omega, fun h2 => by omega⟩
    simp [this]
  · simp [e]
theorem id_fin {a b d : Nat} (h : a < d) : idm a b = if a = b ∧ a < d then Cx.ofInt 1 else Cx.ofInt 0 := by
  unfold idm
  by_cases e : a = b
  · simp [e]; intro h2; omega
  · simp [e]
set_option maxRecDepth 100000 in
set_option maxHeartbeats 40000000 in
theorem ridentity_any (w : World) (n : Int) : Calls Tryz.prog 29 #[.int .i64 n] w (RetMatQ w (idn n) (fun _ => idn n) idm) := by
  by_cases h0 : n < 0
  · have e : idn n = 0 := by unfold idn; rw [if_pos h0]
    rw [e]
    have t0 : decide (n < 0) = true := by rw [decide_eq_true_eq]; exact h0
    clear h0 e
    go_enter Tryz.func29, Tryz.ntmps29
    go_wp2_with fail
    refine (zeros_any w 0 0 (by omega) (by omega)).mono ?_
    rintro e w1 ⟨gO, rfl, hB0⟩
    go_upto_region 7 with fail
    go_loopw [4] (fun q (wr : World) => q = .int .i64 0 ∧ wr = w1) (fun _ _ => 0)
    case atStart => exact ⟨rfl, rfl⟩
    case round =>
      obtain ⟨rfl, rfl⟩ := hrel
      go_wp2_with fail
      go_ret
      obtain ⟨h1, h2⟩ := (hB0.cong (D' := fun _ _ => True) (f' := idm) (fun a b ha _ _ => absurd ha (by omega))).fin (fun _ _ => trivial)
      exact ⟨_, _, rfl, h1, h2⟩
  · have t0 : decide (n < 0) = false := by rw [decide_eq_false_iff_not]; exact h0
    by_cases h1 : 32 < n
    · have e : idn n = 32 := by unfold idn; rw [if_neg h0, if_pos h1]
      rw [e]
      have t1 : decide (32 < n) = true := by rw [decide_eq_true_eq]; exact h1
      clear h0 h1 e
      go_enter Tryz.func29, Tryz.ntmps29
      go_wp2_with fail
      refine (zeros_any w 32 32 (by omega) (by omega)).mono ?_
      rintro e w1 ⟨gO, rfl, hB00⟩
      have hB0 : MkQ w gO 32 32 32 (fun _ _ => True) (fun a b => if a = b ∧ a < 0 then Cx.ofInt 1 else Cx.ofInt 0) w1 := hB00.cong (fun a b _ _ _ => ⟨trivial, if_neg (fun h => absurd h.2 (Nat.not_lt_zero _))⟩)
      clear hB00
      go_upto_region 7 with fail
      go_loopw [4] (fun q (wr : World) => ∃ k : Nat, k ≤ 32 ∧ q = .int .i64 k ∧ MkQ w gO 32 32 32 (fun _ _ => True) (fun a b => if a = b ∧ a < k then Cx.ofInt 1 else Cx.ofInt 0) wr) (fun q _ => 32 - (intOf q).toNat)
      case atStart => exact ⟨0, Nat.zero_le _, rfl, hB0⟩
      case round =>
        obtain ⟨i, hi, rfl, hB⟩ := hrel
        clear hB0
        by_cases hlt : i < 32
        · obtain ⟨g, hg1, hg2, hg3, _, hput⟩ := hB.put hlt hlt hlt
          have i3 : (0 : Int) ≤ (i : Int) := by omega
          have i4 : (i : Int) < 32 := by omega
          clear hB
          go_upto_region 9 with fail
          refine wp_region_any (by kernel_rfl) ?_
          refine wpAny_inv (fun l a' w' => ∃ V : Nat → Value, ∃ x5 : Value, a' = ⟨#[.int .i64 32, undef, .slice none 0 0, .slice (some ⟨gO, 0, none⟩) 32 32, .int .i64 i, .int .i64 n, .bool false, .int .i64 n, .bool true, .int .i64 32, .int .i64 32, .slice (some ⟨gO, 0, none⟩) 32 32, .int .i64 i, .int .i64 32, .bool true, u15, u16, V 0, V 1, V 2, V 3, V 4, x5, V 6, undef], []⟩ ∧ OnFix l V (fun zz => List.getD [.slice (some ⟨gO, 0, none⟩) 32 32, .int .i64 i, .pointer (some ⟨gO, i, none⟩), .slice (some ⟨g, 0, none⟩) 32 32, .int .i64 i, undef, .pointer (some ⟨g, i * 5, none⟩), undef] zz undef) [0, 1, 2, 3, 4, 6] ∧ Off l 7 (Below wr.heap.size wr w' ∧ On l 5 (SlotNumC w' x5 (Cx.ofInt 1))) ∧ On l 7 (MkQ w gO 32 32 32 (fun _ _ => True) (fun a b => if a = b ∧ a < (i + 1) then Cx.ofInt 1 else Cx.ofInt 0) w') ∧ Edg l [(7, 6), (6, 3), (7, 5)] ∧ l.size = 8) ?_ ?_ _ _ _ _ (by decide) ?_
          · intro l a' W' i hi hI
            obtain ⟨V, x5, rfl, hv, hZ, hM0, hE, hz⟩ := hI
            obtain ⟨hlt, hoff, hpre⟩ := ready_pre hi
            have hc : i ∈ [0, 1, 2, 3, 4, 5, 6, 7] := (by decide : ∀ i, i < 8 → i ∈ [0, 1, 2, 3, 4, 5, 6, 7]) i hlt
            simp only [List.mem_cons, List.not_mem_nil, or_false] at hc
            clear hi hlt
            rcases hc with rfl | rfl | rfl | rfl | rfl | rfl | rfl | rfl <;> (have hp := hpre _ rfl; simp [Region.binds] at hp; clear hpre)
            · skip
              have HV := Lib.hid hv
              clear hv
              refine wpOp_go rfl rfl (fun K hK => ?_)
              go_simp
              refine hK _ _ ?_
              exact ⟨_, _, rfl, HV.out.new (x := .slice (some ⟨gO, 0, none⟩) 32 32) rfl, hZ.keep.map (fun ⟨hb0, y5⟩ => ⟨hb0, y5.keep (by decide)⟩), hM0.keep (by decide), hE.mono (by decide), by simp [hz]⟩
            · skip
              have HV := Lib.hid hv
              clear hv
              refine wpOp_go rfl rfl (fun K hK => ?_)
              go_simp
              refine hK _ _ ?_
              exact ⟨_, _, rfl, HV.out.new (x := .int .i64 i) rfl, hZ.keep.map (fun ⟨hb0, y5⟩ => ⟨hb0, y5.keep (by decide)⟩), hM0.keep (by decide), hE.mono (by decide), by simp [hz]⟩
            · skip
              have e0 : V 0 = .slice (some ⟨gO, 0, none⟩) 32 32 := hv.get 0 (by decide) (by simp [hp])
              have e1 : V 1 = .int .i64 i := hv.get 1 (by decide) (by simp [hp])
              have HV := Lib.hid ((hv.fixE e0 rfl).fixE e1 rfl)
              clear hv
              simp only [e0, e1]
              refine wpOp_go rfl rfl (fun K hK => ?_)
              go_simp
              refine hK _ _ ?_
              exact ⟨_, _, rfl, HV.out.new (x := .pointer (some ⟨gO, i, none⟩)) rfl, hZ.keep.map (fun ⟨hb0, y5⟩ => ⟨hb0, y5.keep (by decide)⟩), hM0.keep (by decide), hE.mono (by decide), by simp [hz]⟩
            · skip
              have e2 : V 2 = .pointer (some ⟨gO, i, none⟩) := hv.get 2 (by decide) (by simp [hp])
              have HV := Lib.hid (hv.fixE e2 rfl)
              clear hv
              simp only [e2]
              have hY := hZ.get (fun h => off hoff (hE.get 6 3 (by decide) (hE.get 7 6 (by decide) h)))
              have z := keepc hY.1 hg1 hg2
              refine wpOp_go rfl rfl (fun K hK => ?_)
              go_simp
              refine hK _ _ ?_
              exact ⟨_, _, rfl, HV.out.new (x := .slice (some ⟨g, 0, none⟩) 32 32) rfl, hZ.keep.map (fun ⟨hb0, y5⟩ => ⟨hb0, y5.keep (by decide)⟩), hM0.keep (by decide), hE.mono (by decide), by simp [hz]⟩
            · skip
              have HV := Lib.hid hv
              clear hv
              refine wpOp_go rfl rfl (fun K hK => ?_)
              go_simp
              refine hK _ _ ?_
              exact ⟨_, _, rfl, HV.out.new (x := .int .i64 i) rfl, hZ.keep.map (fun ⟨hb0, y5⟩ => ⟨hb0, y5.keep (by decide)⟩), hM0.keep (by decide), hE.mono (by decide), by simp [hz]⟩
            · skip
              have HV := Lib.hid hv
              clear hv
              have hY := hZ.get (fun h => off hoff (hE.get 7 5 (by decide) h))
              refine wpOp_go rfl rfl (fun K hK => ?_)
              go_wp2_with (first | (go_at_call 69; refine (rwhole_any 1 _ (by omega) (by omega)).mono ?_; rintro e w3 ⟨E1, E2, E3, kk1, kk2, kk3, rfl, hN, hb⟩))
              try refine hK _ _ ?_
              exact ⟨_, _, rfl, HV.out.other (by decide), Off.new ⟨hY.1.trans (hb.mono hY.1.size), On.new (⟨E1, E2, E3, kk1, kk2, kk3, rfl, hN⟩)⟩, fun h => absurd (hE.get 7 5 (by decide) (on_ne h (by decide))) (off hoff), hE.mono (by decide), by simp [hz]⟩
            · skip
              have e3 : V 3 = .slice (some ⟨g, 0, none⟩) 32 32 := hv.get 3 (by decide) (by simp [hp])
              have e4 : V 4 = .int .i64 i := hv.get 4 (by decide) (by simp [hp])
              have HV := Lib.hid ((hv.fixE e3 rfl).fixE e4 rfl)
              clear hv
              simp only [e3, e4]
              refine wpOp_go rfl rfl (fun K hK => ?_)
              go_simp
              refine hK _ _ ?_
              exact ⟨_, _, rfl, HV.out.new (x := .pointer (some ⟨g, i * 5, none⟩)) rfl, hZ.keep.map (fun ⟨hb0, y5⟩ => ⟨hb0, y5.keep (by decide)⟩), hM0.keep (by decide), hE.step (by simp [hp]), by simp [hz]⟩
            · skip
              have e6 : V 6 = .pointer (some ⟨g, i * 5, none⟩) := hv.get 6 (by decide) (by simp [hp])
              have HV := Lib.hid (hv.fixE e6 rfl)
              clear hv
              simp only [e6]
              have hY := hZ.get (off hoff)
              obtain ⟨E1, E2, E3, kk1, kk2, kk3, e1, hN⟩ := hY.2.get (by simp [hp])
              subst e1
              obtain ⟨⟨u0, u1, u2, u3, u4, d0, d1, d2, d3, d4⟩, ⟨f0, f1, f2, f3, f4⟩, hfin⟩ := hput W' hY.1
              refine wpOp_go rfl rfl (fun K hK => ?_)
              go_simp
              refine hK _ _ ?_
              obtain ⟨XX, hX⟩ : ∃ XX : World, XX = set5q W' g (i * 5) (Cx.ofInt 1) E1 E2 E3 kk1 kk2 kk3 := ⟨_, rfl⟩
              have hw : set5q W' g (i * 5) (Cx.ofInt 1) E1 E2 E3 kk1 kk2 kk3 = XX := hX.symm
              unfold set5q at hw
              rw [hw]
              subst hX
              exact ⟨_, _, rfl, HV.out.other (by decide), Off.done (by omega), On.new (hfin (fun _ _ => True) (fun a b => if a = b ∧ a < (i + 1) then Cx.ofInt 1 else Cx.ofInt 0) _ E1 E2 E3 kk1 kk2 kk3 hN (by simp) (fun a b h _ => ⟨trivial, id_step h⟩)), hE.step (by simp [hp]), by simp [hz]⟩
          · intro l a' W' hr hI
            obtain ⟨V, x5, rfl, hv, hZ, hM0, hE, hz⟩ := hI
            have a0 := not_ready (i := 0) hr hz rfl (by simp [Region.binds])
            have a1 := not_ready (i := 1) hr hz rfl (by simp [Region.binds, a0])
            have a2 := not_ready (i := 2) hr hz rfl (by simp [Region.binds, a0, a1])
            have a3 := not_ready (i := 3) hr hz rfl (by simp [Region.binds, a0, a1, a2])
            have a4 := not_ready (i := 4) hr hz rfl (by simp [Region.binds, a0, a1, a2, a3])
            have a5 := not_ready (i := 5) hr hz rfl (by simp [Region.binds, a0, a1, a2, a3, a4])
            have a6 := not_ready (i := 6) hr hz rfl (by simp [Region.binds, a0, a1, a2, a3, a4, a5])
            have a7 := not_ready (i := 7) hr hz rfl (by simp [Region.binds, a0, a1, a2, a3, a4, a5, a6])
            have hY := hM0.get a7
            clear hr hz hv hZ a0 a1 a2 a3 a4 a5 a6 a7 hM0 hE
            go_wp2_with fail
            go_roundw
            case rel => exact ⟨i + 1, by omega, by go_num, hY⟩
            case measure => simp [intOf]; omega
          · exact ⟨fun zz => List.getD [u17, u18, u19, u20, u21, u22, u23, undef] zz undef, _, rfl, OnFix.start, Off.new ⟨((Below.refl _ _).drew), fun h => absurd h (by decide)⟩, fun h => absurd h (by decide), Edg.start, by simp⟩
        · obtain rfl : i = 32 := by omega
          go_wp2_with fail
          go_ret
          obtain ⟨h1, h2⟩ := (hB.cong (D' := fun _ _ => True) (f' := idm) (fun a b ha hb _ => ⟨trivial, id_fin ha⟩)).fin (fun _ _ => trivial)
          exact ⟨_, _, rfl, h1, h2⟩
    · have e : idn n = n.toNat := by unfold idn; rw [if_neg h0, if_neg h1]
      rw [e]
      obtain ⟨d, rfl⟩ : ∃ d : Nat, n = (d : Int) := ⟨n.toNat, by omega⟩
      have e2 : ((d : Int)).toNat = d := by omega
      rw [e2]
      have t1 : decide (32 < (d : Int)) = false := by rw [decide_eq_false_iff_not]; omega
      have hd : d ≤ 32 := by omega
      clear h0 h1 e e2
      go_enter Tryz.func29, Tryz.ntmps29
      go_wp2_with fail
      refine (zeros_any w d d (by omega) (by omega)).mono ?_
      rintro e w1 ⟨gO, rfl, hB00⟩
      have hB0 : MkQ w gO d d d (fun _ _ => True) (fun a b => if a = b ∧ a < 0 then Cx.ofInt 1 else Cx.ofInt 0) w1 := hB00.cong (fun a b _ _ _ => ⟨trivial, if_neg (fun h => absurd h.2 (Nat.not_lt_zero _))⟩)
      clear hB00
      go_upto_region 7 with fail
      go_loopw [4] (fun q (wr : World) => ∃ k : Nat, k ≤ d ∧ q = .int .i64 k ∧ MkQ w gO d d d (fun _ _ => True) (fun a b => if a = b ∧ a < k then Cx.ofInt 1 else Cx.ofInt 0) wr) (fun q _ => d - (intOf q).toNat)
      case atStart => exact ⟨0, Nat.zero_le _, rfl, hB0⟩
      case round =>
        obtain ⟨i, hi, rfl, hB⟩ := hrel
        clear hB0
        by_cases hlt : i < d
        · obtain ⟨g, hg1, hg2, hg3, _, hput⟩ := hB.put hlt hlt hlt
          have i3 : (0 : Int) ≤ (i : Int) := by omega
          have i4 : (i : Int) < (d : Int) := by omega
          clear hB
          go_upto_region 9 with fail
          refine wp_region_any (by kernel_rfl) ?_
          refine wpAny_inv (fun l a' w' => ∃ V : Nat → Value, ∃ x5 : Value, a' = ⟨#[.int .i64 d, undef, .slice none 0 0, .slice (some ⟨gO, 0, none⟩) d d, .int .i64 i, .int .i64 d, .bool false, .int .i64 d, .bool false, .int .i64 d, .int .i64 d, .slice (some ⟨gO, 0, none⟩) d d, .int .i64 i, .int .i64 d, .bool true, u15, u16, V 0, V 1, V 2, V 3, V 4, x5, V 6, undef], []⟩ ∧ OnFix l V (fun zz => List.getD [.slice (some ⟨gO, 0, none⟩) d d, .int .i64 i, .pointer (some ⟨gO, i, none⟩), .slice (some ⟨g, 0, none⟩) d d, .int .i64 i, undef, .pointer (some ⟨g, i * 5, none⟩), undef] zz undef) [0, 1, 2, 3, 4, 6] ∧ Off l 7 (Below wr.heap.size wr w' ∧ On l 5 (SlotNumC w' x5 (Cx.ofInt 1))) ∧ On l 7 (MkQ w gO d d d (fun _ _ => True) (fun a b => if a = b ∧ a < (i + 1) then Cx.ofInt 1 else Cx.ofInt 0) w') ∧ Edg l [(7, 6), (6, 3), (7, 5)] ∧ l.size = 8) ?_ ?_ _ _ _ _ (by decide) ?_
          · intro l a' W' i hi hI
            obtain ⟨V, x5, rfl, hv, hZ, hM0, hE, hz⟩ := hI
            obtain ⟨hlt, hoff, hpre⟩ := ready_pre hi
            have hc : i ∈ [0, 1, 2, 3, 4, 5, 6, 7] := (by decide : ∀ i, i < 8 → i ∈ [0, 1, 2, 3, 4, 5, 6, 7]) i hlt
            simp only [List.mem_cons, List.not_mem_nil, or_false] at hc
            clear hi hlt
            rcases hc with rfl | rfl | rfl | rfl | rfl | rfl | rfl | rfl <;> (have hp := hpre _ rfl; simp [Region.binds] at hp; clear hpre)
            · skip
              have HV := Lib.hid hv
              clear hv
              refine wpOp_go rfl rfl (fun K hK => ?_)
              go_simp
              refine hK _ _ ?_
              exact ⟨_, _, rfl, HV.out.new (x := .slice (some ⟨gO, 0, none⟩) d d) rfl, hZ.keep.map (fun ⟨hb0, y5⟩ => ⟨hb0, y5.keep (by decide)⟩), hM0.keep (by decide), hE.mono (by decide), by simp [hz]⟩
            · skip
              have HV := Lib.hid hv
              clear hv
              refine wpOp_go rfl rfl (fun K hK => ?_)
              go_simp
              refine hK _ _ ?_
              exact ⟨_, _, rfl, HV.out.new (x := .int .i64 i) rfl, hZ.keep.map (fun ⟨hb0, y5⟩ => ⟨hb0, y5.keep (by decide)⟩), hM0.keep (by decide), hE.mono (by decide), by simp [hz]⟩
            · skip
              have e0 : V 0 = .slice (some ⟨gO, 0, none⟩) d d := hv.get 0 (by decide) (by simp [hp])
              have e1 : V 1 = .int .i64 i := hv.get 1 (by decide) (by simp [hp])
              have HV := Lib.hid ((hv.fixE e0 rfl).fixE e1 rfl)
              clear hv
              simp only [e0, e1]
              refine wpOp_go rfl rfl (fun K hK => ?_)
              go_simp
              refine hK _ _ ?_
              exact ⟨_, _, rfl, HV.out.new (x := .pointer (some ⟨gO, i, none⟩)) rfl, hZ.keep.map (fun ⟨hb0, y5⟩ => ⟨hb0, y5.keep (by decide)⟩), hM0.keep (by decide), hE.mono (by decide), by simp [hz]⟩
            · skip
              have e2 : V 2 = .pointer (some ⟨gO, i, none⟩) := hv.get 2 (by decide) (by simp [hp])
              have HV := Lib.hid (hv.fixE e2 rfl)
              clear hv
              simp only [e2]
              have hY := hZ.get (fun h => off hoff (hE.get 6 3 (by decide) (hE.get 7 6 (by decide) h)))
              have z := keepc hY.1 hg1 hg2
              refine wpOp_go rfl rfl (fun K hK => ?_)
              go_simp
              refine hK _ _ ?_
              exact ⟨_, _, rfl, HV.out.new (x := .slice (some ⟨g, 0, none⟩) d d) rfl, hZ.keep.map (fun ⟨hb0, y5⟩ => ⟨hb0, y5.keep (by decide)⟩), hM0.keep (by decide), hE.mono (by decide), by simp [hz]⟩
            · skip
              have HV := Lib.hid hv
              clear hv
              refine wpOp_go rfl rfl (fun K hK => ?_)
              go_simp
              refine hK _ _ ?_
              exact ⟨_, _, rfl, HV.out.new (x := .int .i64 i) rfl, hZ.keep.map (fun ⟨hb0, y5⟩ => ⟨hb0, y5.keep (by decide)⟩), hM0.keep (by decide), hE.mono (by decide), by simp [hz]⟩
            · skip
              have HV := Lib.hid hv
              clear hv
              have hY := hZ.get (fun h => off hoff (hE.get 7 5 (by decide) h))
              refine wpOp_go rfl rfl (fun K hK => ?_)
              go_wp2_with (first | (go_at_call 69; refine (rwhole_any 1 _ (by omega) (by omega)).mono ?_; rintro e w3 ⟨E1, E2, E3, kk1, kk2, kk3, rfl, hN, hb⟩))
              try refine hK _ _ ?_
              exact ⟨_, _, rfl, HV.out.other (by decide), Off.new ⟨hY.1.trans (hb.mono hY.1.size), On.new (⟨E1, E2, E3, kk1, kk2, kk3, rfl, hN⟩)⟩, fun h => absurd (hE.get 7 5 (by decide) (on_ne h (by decide))) (off hoff), hE.mono (by decide), by simp [hz]⟩
            · skip
              have e3 : V 3 = .slice (some ⟨g, 0, none⟩) d d := hv.get 3 (by decide) (by simp [hp])
              have e4 : V 4 = .int .i64 i := hv.get 4 (by decide) (by simp [hp])
              have HV := Lib.hid ((hv.fixE e3 rfl).fixE e4 rfl)
              clear hv
              simp only [e3, e4]
              refine wpOp_go rfl rfl (fun K hK => ?_)
              go_simp
              refine hK _ _ ?_
              exact ⟨_, _, rfl, HV.out.new (x := .pointer (some ⟨g, i * 5, none⟩)) rfl, hZ.keep.map (fun ⟨hb0, y5⟩ => ⟨hb0, y5.keep (by decide)⟩), hM0.keep (by decide), hE.step (by simp [hp]), by simp [hz]⟩
            · skip
              have e6 : V 6 = .pointer (some ⟨g, i * 5, none⟩) := hv.get 6 (by decide) (by simp [hp])
              have HV := Lib.hid (hv.fixE e6 rfl)
              clear hv
              simp only [e6]
              have hY := hZ.get (off hoff)
              obtain ⟨E1, E2, E3, kk1, kk2, kk3, e1, hN⟩ := hY.2.get (by simp [hp])
              subst e1
              obtain ⟨⟨u0, u1, u2, u3, u4, d0, d1, d2, d3, d4⟩, ⟨f0, f1, f2, f3, f4⟩, hfin⟩ := hput W' hY.1
              refine wpOp_go rfl rfl (fun K hK => ?_)
              go_simp
              refine hK _ _ ?_
              obtain ⟨XX, hX⟩ : ∃ XX : World, XX = set5q W' g (i * 5) (Cx.ofInt 1) E1 E2 E3 kk1 kk2 kk3 := ⟨_, rfl⟩
              have hw : set5q W' g (i * 5) (Cx.ofInt 1) E1 E2 E3 kk1 kk2 kk3 = XX := hX.symm
              unfold set5q at hw
              rw [hw]
              subst hX
              exact ⟨_, _, rfl, HV.out.other (by decide), Off.done (by omega), On.new (hfin (fun _ _ => True) (fun a b => if a = b ∧ a < (i + 1) then Cx.ofInt 1 else Cx.ofInt 0) _ E1 E2 E3 kk1 kk2 kk3 hN (by simp) (fun a b h _ => ⟨trivial, id_step h⟩)), hE.step (by simp [hp]), by simp [hz]⟩
          · intro l a' W' hr hI
            obtain ⟨V, x5, rfl, hv, hZ, hM0, hE, hz⟩ := hI
            have a0 := not_ready (i := 0) hr hz rfl (by simp [Region.binds])
            have a1 := not_ready (i := 1) hr hz rfl (by simp [Region.binds, a0])
            have a2 := not_ready (i := 2) hr hz rfl (by simp [Region.binds, a0, a1])
            have a3 := not_ready (i := 3) hr hz rfl (by simp [Region.binds, a0, a1, a2])
            have a4 := not_ready (i := 4) hr hz rfl (by simp [Region.binds, a0, a1, a2, a3])
            have a5 := not_ready (i := 5) hr hz rfl (by simp [Region.binds, a0, a1, a2, a3, a4])
            have a6 := not_ready (i := 6) hr hz rfl (by simp [Region.binds, a0, a1, a2, a3, a4, a5])
            have a7 := not_ready (i := 7) hr hz rfl (by simp [Region.binds, a0, a1, a2, a3, a4, a5, a6])
            have hY := hM0.get a7
            clear hr hz hv hZ a0 a1 a2 a3 a4 a5 a6 a7 hM0 hE
            go_wp2_with fail
            go_roundw
            case rel => exact ⟨i + 1, by omega, by go_num, hY⟩
            case measure => simp [intOf]; omega
          · exact ⟨fun zz => List.getD [u17, u18, u19, u20, u21, u22, u23, undef] zz undef, _, rfl, OnFix.start, Off.new ⟨((Below.refl _ _).drew), fun h => absurd h (by decide)⟩, fun h => absurd h (by decide), Edg.start, by simp⟩
        · obtain rfl : i = d := by omega
          go_wp2_with fail
          go_ret
          obtain ⟨h1, h2⟩ := (hB.cong (D' := fun _ _ => True) (f' := idm) (fun a b ha hb _ => ⟨trivial, id_fin ha⟩)).fin (fun _ _ => trivial)
          exact ⟨_, _, rfl, h1, h2⟩
end Go.Proofs.YtdpjknjlhchmcaaGreat

namespace Go.Proofs.YtdpjknjlhchmcaaGreat
open Go.RowKit Pl
set_option linter.unusedVariables false
set_option linter.unusedSimpArgs false
/-- A new row. -/
def RowN (z : Nat) (w : World) (u : Value) (c : Nat) (q : Cx) : Prop := ∃ g, u = .slice (some ⟨g, 0, none⟩) c c ∧ z ≤ g ∧ g < w.heap.size ∧ RowB w g 45 (c * 5) ∧ ∀ k, k < c → PE w g (k * 5) q
theorem RowN.to {z c : Nat} {w w' : World} {u : Value} {q : Cx} (h : RowN z w u c q) (hb : Below w.heap.size w w') : RowN z w' u c q := by
  obtain ⟨g, e, h1, h2, h3, h4⟩ := h; exact ⟨g, e, h1, Nat.lt_of_lt_of_le h2 hb.size, h3.to hb, fun k hk => (h4 k hk).to hb⟩
/-- The identity but for row i. -/
def id0 (i a b : Nat) : Cx := if a = i then Cx.ofInt 0 else idm a b
theorem id0_at {i a b : Nat} (h : ¬ (a = i ∧ b = i)) : idm a b = id0 i a b := by
  unfold id0
  by_cases e : a = i
  · subst e
    rw [if_pos rfl]
    exact if_neg (fun e2 => h ⟨rfl, e2.symm⟩)
  · rw [if_neg e]
set_option maxRecDepth 100000 in
set_option maxHeartbeats 40000000 in
theorem identity_any (w : World) (n : Int) : Calls Tryz.prog 28 #[.int .i64 n] w (RetMat w (idn n) (fun _ => idn n) idm) := by
  obtain ⟨d, hd⟩ : ∃ d, d = idn n := ⟨_, rfl⟩
  rw [← hd]
  have hd2 : d ≤ 32 := by rw [hd]; unfold idn; split <;> (try split) <;> omega
  have hmx : min (max n 0) 32 = (d : Int) := by rw [hd]; unfold idn; split <;> (try split) <;> omega
  have hmk := mk_nums2 d (by omega)
  have hm_Of : ∀ (k : Nat) (v1 v2 v3 v4 v5 : Value) (w : World), (method (k + 1) 45 (.agg #[v1, v2, v3, v4, v5]) "Of").run Tryz.prog w = .ok (175, .agg #[v1, v2, v3, v4, v5]) w := fun _ _ _ _ _ _ _ => by kernel_rfl
  clear hd
  go_enter Tryz.func28, Tryz.ntmps28
  go_upto_region 3 with fail
  clear hmk hmx
  obtain ⟨g3, hg3⟩ : ∃ g, g = w.heap.size := ⟨_, rfl⟩
  obtain ⟨w1, hw1⟩ : ∃ w1 : World, w1 = w.alloc (.cells #[.bool false, .slice none 0 0, .bool false, .slice none 0 0, .slice none 0 0] 45) := ⟨_, rfl⟩
  have hb1 : Below w.heap.size w w1 := by rw [hw1]; exact (Below.refl _ _).alloc (Nat.le_refl _) _
  have ht : C5 w1 g3 (.bool false) (.slice none 0 0) (.bool false) (.slice none 0 0) (.slice none 0 0) := by subst hw1 hg3; exact ⟨by go_simp, by go_simp, by go_simp, by go_simp, by go_simp⟩
  have hl3 : g3 < w1.heap.size := by subst hw1 hg3; simp
  have hB0 : MkP w1 w1.heap.size d d 0 (fun _ _ => True) idm (mkS w1 d 28) := MkP.new
  have es : g3 + 1 = w1.heap.size := by rw [hw1, hg3]; simp
  rw [← hg3, ← hw1, es]
  have HB1 := Lib.hid hb1
  have HT := Lib.hid (And.intro ht hl3)
  clear hb1 hw1 hg3 ht hl3 es
  generalize mkS w1 d 28 = W0 at *
  obtain ⟨gO, hgO⟩ : ∃ g, g = w1.heap.size := ⟨_, rfl⟩
  rw [← hgO] at hB0 ⊢
  clear hgO
  go_wp2_with fail
  go_loopw [12] (fun i (wr : World) => ∃ k : Nat, k ≤ d ∧ i = .int .i64 k ∧ MkP w1 gO d d k (fun _ _ => True) idm wr) (fun i _ => d - (intOf i).toNat)
  case atStart => exact ⟨0, Nat.zero_le _, rfl, hB0⟩
  case round =>
    obtain ⟨i, hi, rfl, hB⟩ := hrel
    clear hB0
    by_cases hlt : i < d
    · obtain ⟨ht, hl3⟩ := HT.out
      replace ht := ht.to hB.below hl3
      replace hl3 := Nat.lt_of_lt_of_le hl3 hB.below.size
      have i1 : (0 : Int) ≤ (i : Int) := by omega
      have i2 : (i : Int) < (d : Int) := by omega
      have HBB := Lib.hid hB
      clear hB
      go_upto_region 6 with fail
      refine wp_region_any (by kernel_rfl) ?_
      refine wpAny_inv (fun l a' w' => ∃ V : Nat → Value, ∃ x4 x5 x6 x9 : Value, a' = ⟨#[.int .i64 n, undef, .slice none 0 0, .pointer (some ⟨g3, 0, none⟩), .slice (some ⟨gO, 0, none⟩) d d, .int .i64 ↑i, .int .i64 n, .int .i64 (max n 0), .int .i64 ↑d, .slice (some ⟨gO, 0, none⟩) d d, .slice (some ⟨gO, 0, none⟩) d d, .int .i64 ↑d, .int .i64 ↑i, .bool true, .int .i64 ↑i, V 0, V 1, V 2, V 3, x4, x5, x6, V 7, V 8, x9, V 10, u26, u27, u28, u29, u30, u31, u32, u33, u34, u35, u36, undef], []⟩ ∧ OnFix l V (fun zz => List.getD [.slice (some ⟨gO, 0, none⟩) d d, .int .i64 i, .agg #[.bool false, .slice none 0 0, .bool false, .slice none 0 0, .slice none 0 0], .iface 45 (.agg #[.bool false, .slice none 0 0, .bool false, .slice none 0 0, .slice none 0 0]), undef, undef, undef, .slice (some ⟨gO, 0, none⟩) d d, .int .i64 d, undef, .pointer (some ⟨gO, i, none⟩), undef] zz undef) [0, 1, 2, 3, 7, 8, 10] ∧ Off l 11 (Below wr.heap.size wr w' ∧ On l 4 (SlotNum w' x4 (Cx.ofInt 0)) ∧ On l 5 (SlotNum w' x5 (Cx.ofInt 0)) ∧ On l 6 (BoxN wr.heap.size w' x6 (Cx.ofInt 0)) ∧ On l 9 (RowN wr.heap.size w' x9 d (Cx.ofInt 0))) ∧ On l 11 (MkP w1 gO d d (i + 1) (fun _ _ => True) (id0 i) w') ∧ Edg l [(11, 9), (9, 6), (6, 5), (5, 3), (3, 2), (5, 4)] ∧ l.size = 12) ?_ ?_ _ _ _ _ (by decide) ?_
      · intro l a' W' i hi hI
        obtain ⟨V, x4, x5, x6, x9, rfl, hv, hZ, hM0, hE, hz⟩ := hI
        obtain ⟨hlt, hoff, hpre⟩ := ready_pre hi
        have hc : i ∈ [0, 1, 2, 3, 4, 5, 6, 7, 8, 9, 10, 11] := (by decide : ∀ i, i < 12 → i ∈ [0, 1, 2, 3, 4, 5, 6, 7, 8, 9, 10, 11]) i hlt
        simp only [List.mem_cons, List.not_mem_nil, or_false] at hc
        clear hi hlt
        rcases hc with rfl | rfl | rfl | rfl | rfl | rfl | rfl | rfl | rfl | rfl | rfl | rfl <;> (have hp := hpre _ rfl; simp [Region.binds] at hp; clear hpre)
        · skip
          have HV := Lib.hid hv
          clear hv
          refine wpOp_go rfl rfl (fun K hK => ?_)
          go_simp
          refine hK _ _ ?_
          exact ⟨_, _, _, _, _, rfl, HV.out.new (x := .slice (some ⟨gO, 0, none⟩) d d) rfl, hZ.keep.map (fun ⟨hb0, y4, y5, y6, y9⟩ => ⟨hb0, y4.keep (by decide), y5.keep (by decide), y6.keep (by decide), y9.keep (by decide)⟩), hM0.keep (by decide), hE.mono (by decide), by simp [hz]⟩
        · skip
          have HV := Lib.hid hv
          clear hv
          refine wpOp_go rfl rfl (fun K hK => ?_)
          go_simp
          refine hK _ _ ?_
          exact ⟨_, _, _, _, _, rfl, HV.out.new (x := .int .i64 i) rfl, hZ.keep.map (fun ⟨hb0, y4, y5, y6, y9⟩ => ⟨hb0, y4.keep (by decide), y5.keep (by decide), y6.keep (by decide), y9.keep (by decide)⟩), hM0.keep (by decide), hE.mono (by decide), by simp [hz]⟩
        · skip
          have HV := Lib.hid hv
          clear hv
          have hY := hZ.get (fun h => off hoff (hE.get 3 2 (by decide) (hE.get 5 3 (by decide) (hE.get 6 5 (by decide) (hE.get 9 6 (by decide) (hE.get 11 9 (by decide) h))))))
          obtain ⟨z0, z1, z2, z3, z4⟩ := ht
          have y0 := keepc hY.1 z0 hl3; have y1 := keepc hY.1 z1 hl3; have y2 := keepc hY.1 z2 hl3; have y3 := keepc hY.1 z3 hl3; have y4 := keepc hY.1 z4 hl3
          refine wpOp_go rfl rfl (fun K hK => ?_)
          go_simp
          refine hK _ _ ?_
          exact ⟨_, _, _, _, _, rfl, HV.out.new (x := .agg #[.bool false, .slice none 0 0, .bool false, .slice none 0 0, .slice none 0 0]) rfl, hZ.keep.map (fun ⟨hb0, y4, y5, y6, y9⟩ => ⟨hb0, y4.keep (by decide), y5.keep (by decide), y6.keep (by decide), y9.keep (by decide)⟩), hM0.keep (by decide), hE.mono (by decide), by simp [hz]⟩
        · skip
          have e2 : V 2 = .agg #[.bool false, .slice none 0 0, .bool false, .slice none 0 0, .slice none 0 0] := hv.get 2 (by decide) (by simp [hp])
          have HV := Lib.hid (hv.fixE e2 rfl)
          clear hv
          simp only [e2]
          refine wpOp_go rfl rfl (fun K hK => ?_)
          go_simp
          refine hK _ _ ?_
          exact ⟨_, _, _, _, _, rfl, HV.out.new (x := .iface 45 (.agg #[.bool false, .slice none 0 0, .bool false, .slice none 0 0, .slice none 0 0])) rfl, hZ.keep.map (fun ⟨hb0, y4, y5, y6, y9⟩ => ⟨hb0, y4.keep (by decide), y5.keep (by decide), y6.keep (by decide), y9.keep (by decide)⟩), hM0.keep (by decide), hE.step (by simp [hp]), by simp [hz]⟩
        · skip
          have HV := Lib.hid hv
          clear hv
          have hY := hZ.get (fun h => off hoff (hE.get 5 4 (by decide) (hE.get 6 5 (by decide) (hE.get 9 6 (by decide) (hE.get 11 9 (by decide) h)))))
          refine wpOp_go rfl rfl (fun K hK => ?_)
          go_wp2_with (first | (go_at_call 16; refine (int_any 0 _ (by omega) (by omega)).mono ?_; rintro e w3 ⟨E1, E2, E3, rfl, hN, hb⟩))
          try refine hK _ _ ?_
          exact ⟨_, _, _, _, _, rfl, HV.out.other (by decide), Off.new ⟨hY.1.trans (hb.mono hY.1.size), On.new (⟨E1, E2, E3, rfl, hN⟩), ((hY.2.2.1).keep (by decide)).map (fun h => h.to hb), ((hY.2.2.2.1).keep (by decide)).map (fun h => h.to hb), ((hY.2.2.2.2).keep (by decide)).map (fun h => h.to hb)⟩, fun h => absurd (hE.get 5 4 (by decide) (hE.get 6 5 (by decide) (hE.get 9 6 (by decide) (hE.get 11 9 (by decide) (on_ne h (by decide)))))) (off hoff), hE.mono (by decide), by simp [hz]⟩
        · skip
          have e3 : V 3 = .iface 45 (.agg #[.bool false, .slice none 0 0, .bool false, .slice none 0 0, .slice none 0 0]) := hv.get 3 (by decide) (by simp [hp])
          have HV := Lib.hid (hv.fixE e3 rfl)
          clear hv
          simp only [e3]
          have hY := hZ.get (fun h => off hoff (hE.get 6 5 (by decide) (hE.get 9 6 (by decide) (hE.get 11 9 (by decide) h))))
          obtain ⟨G1, G2, G3, e0, hM⟩ := hY.2.1.get (by simp [hp])
          subst e0
          refine wpOp_go rfl rfl (fun K hK => ?_)
          go_wp2_with (first | (go_at_call 175; refine (of_five _ _ _ _ _ (Cx.ofInt 0) G1 G2 G3 _ hM rfl rfl rfl rfl rfl).mono ?_; rintro e w3 ⟨E1, E2, E3, rfl, hN, hb⟩))
          try refine hK _ _ ?_
          exact ⟨_, _, _, _, _, rfl, HV.out.other (by decide), Off.new ⟨hY.1.trans (hb.mono hY.1.size), ((hY.2.1).keep (by decide)).map (fun h => h.to hb), On.new (⟨E1, E2, E3, rfl, hN⟩), ((hY.2.2.2.1).keep (by decide)).map (fun h => h.to hb), ((hY.2.2.2.2).keep (by decide)).map (fun h => h.to hb)⟩, fun h => absurd (hE.get 6 5 (by decide) (hE.get 9 6 (by decide) (hE.get 11 9 (by decide) (on_ne h (by decide))))) (off hoff), hE.step (by simp [hp]), by simp [hz]⟩
        · skip
          have HV := Lib.hid hv
          clear hv
          have hY := hZ.get (fun h => off hoff (hE.get 9 6 (by decide) (hE.get 11 9 (by decide) h)))
          obtain ⟨E1, E2, E3, e0, hN⟩ := hY.2.2.1.get (by simp [hp])
          subst e0
          refine wpOp_go rfl rfl (fun K hK => ?_)
          go_simp
          refine hK _ _ ?_
          exact ⟨_, _, _, _, _, rfl, HV.out.other (by decide), Off.new ⟨hY.1.trans (((Below.refl _ _).alloc (Nat.le_refl _) _).mono hY.1.size), ((hY.2.1).keep (by decide)).map (fun h => h.to ((Below.refl _ _).alloc (Nat.le_refl _) _)), ((hY.2.2.1).keep (by decide)).map (fun h => h.to ((Below.refl _ _).alloc (Nat.le_refl _) _)), On.new (BoxN.new hN hY.1.size), ((hY.2.2.2.2).keep (by decide)).map (fun h => h.to ((Below.refl _ _).alloc (Nat.le_refl _) _))⟩, fun h => absurd (hE.get 9 6 (by decide) (hE.get 11 9 (by decide) (on_ne h (by decide)))) (off hoff), hE.step (by simp [hp]), by simp [hz]⟩
        · skip
          have HV := Lib.hid hv
          clear hv
          refine wpOp_go rfl rfl (fun K hK => ?_)
          go_simp
          refine hK _ _ ?_
          exact ⟨_, _, _, _, _, rfl, HV.out.new (x := .slice (some ⟨gO, 0, none⟩) d d) rfl, hZ.keep.map (fun ⟨hb0, y4, y5, y6, y9⟩ => ⟨hb0, y4.keep (by decide), y5.keep (by decide), y6.keep (by decide), y9.keep (by decide)⟩), hM0.keep (by decide), hE.mono (by decide), by simp [hz]⟩
        · skip
          have e7 : V 7 = .slice (some ⟨gO, 0, none⟩) d d := hv.get 7 (by decide) (by simp [hp])
          have HV := Lib.hid (hv.fixE e7 rfl)
          clear hv
          simp only [e7]
          refine wpOp_go rfl rfl (fun K hK => ?_)
          go_simp
          refine hK _ _ ?_
          exact ⟨_, _, _, _, _, rfl, HV.out.new (x := .int .i64 d) rfl, hZ.keep.map (fun ⟨hb0, y4, y5, y6, y9⟩ => ⟨hb0, y4.keep (by decide), y5.keep (by decide), y6.keep (by decide), y9.keep (by decide)⟩), hM0.keep (by decide), hE.mono (by decide), by simp [hz]⟩
        · skip
          have e8 : V 8 = .int .i64 d := hv.get 8 (by decide) (by simp [hp])
          have HV := Lib.hid (hv.fixE e8 rfl)
          clear hv
          simp only [e8]
          have hY := hZ.get (fun h => off hoff (hE.get 11 9 (by decide) h))
          obtain ⟨bb, e0, hpe, hbb⟩ := hY.2.2.2.1.get (by simp [hp])
          subst e0
          refine wpOp_go rfl rfl (fun K hK => ?_)
          go_wp2_with (first | (go_at_call 68; refine (repeat_any _ bb d (Cx.ofInt 0) hpe (by omega) (by omega)).mono ?_; rintro e w3 ⟨gr, rfl, hgr, hrB, hrP, hb⟩))
          try refine hK _ _ ?_
          exact ⟨_, _, _, _, _, rfl, HV.out.other (by decide), Off.new ⟨hY.1.trans (hb.mono hY.1.size), ((hY.2.1).keep (by decide)).map (fun h => h.to hb), ((hY.2.2.1).keep (by decide)).map (fun h => h.to hb), ((hY.2.2.2.1).keep (by decide)).map (fun h => h.to hb), On.new (⟨gr, rfl, Nat.le_trans hY.1.size hgr, hrB.lt, hrB, hrP⟩)⟩, fun h => absurd (hE.get 11 9 (by decide) (on_ne h (by decide))) (off hoff), hE.step (by simp [hp]), by simp [hz]⟩
        · skip
          have e0 : V 0 = .slice (some ⟨gO, 0, none⟩) d d := hv.get 0 (by decide) (by simp [hp])
          have e1 : V 1 = .int .i64 i := hv.get 1 (by decide) (by simp [hp])
          have HV := Lib.hid ((hv.fixE e0 rfl).fixE e1 rfl)
          clear hv
          simp only [e0, e1]
          refine wpOp_go rfl rfl (fun K hK => ?_)
          go_simp
          refine hK _ _ ?_
          exact ⟨_, _, _, _, _, rfl, HV.out.new (x := .pointer (some ⟨gO, i, none⟩)) rfl, hZ.keep.map (fun ⟨hb0, y4, y5, y6, y9⟩ => ⟨hb0, y4.keep (by decide), y5.keep (by decide), y6.keep (by decide), y9.keep (by decide)⟩), hM0.keep (by decide), hE.mono (by decide), by simp [hz]⟩
        · skip
          have e10 : V 10 = .pointer (some ⟨gO, i, none⟩) := hv.get 10 (by decide) (by simp [hp])
          have HV := Lib.hid (hv.fixE e10 rfl)
          clear hv
          simp only [e10]
          have hY := hZ.get (off hoff)
          obtain ⟨gr, e0, hgr, hgl, hrB, hrP⟩ := hY.2.2.2.2.get (by simp [hp])
          subst e0
          obtain ⟨v0, m1, m2⟩ := (HBB.out.to hY.1).at hlt
          refine wpOp_go rfl rfl (fun K hK => ?_)
          go_simp
          refine hK _ _ ?_
          exact ⟨_, _, _, _, _, rfl, HV.out.other (by decide), Off.done (by omega), On.new ((HBB.out.cong (D' := fun _ _ => True) (f' := id0 i) (fun a b ha _ _ => ⟨trivial, if_neg (by omega)⟩)).rowR hlt hY.1 hgr hgl (fun _ => hrB) (fun k hk _ => by rw [show id0 i i k = Cx.ofInt 0 from if_pos rfl]; exact hrP k hk)), hE.step (by simp [hp]), by simp [hz]⟩
      · intro l a' W' hr hI
        obtain ⟨V, x4, x5, x6, x9, rfl, hv, hZ, hM0, hE, hz⟩ := hI
        have a0 := not_ready (i := 0) hr hz rfl (by simp [Region.binds])
        have a1 := not_ready (i := 1) hr hz rfl (by simp [Region.binds, a0])
        have a2 := not_ready (i := 2) hr hz rfl (by simp [Region.binds, a0, a1])
        have a3 := not_ready (i := 3) hr hz rfl (by simp [Region.binds, a0, a1, a2])
        have a4 := not_ready (i := 4) hr hz rfl (by simp [Region.binds, a0, a1, a2, a3])
        have a5 := not_ready (i := 5) hr hz rfl (by simp [Region.binds, a0, a1, a2, a3, a4])
        have a6 := not_ready (i := 6) hr hz rfl (by simp [Region.binds, a0, a1, a2, a3, a4, a5])
        have a7 := not_ready (i := 7) hr hz rfl (by simp [Region.binds, a0, a1, a2, a3, a4, a5, a6])
        have a8 := not_ready (i := 8) hr hz rfl (by simp [Region.binds, a0, a1, a2, a3, a4, a5, a6, a7])
        have a9 := not_ready (i := 9) hr hz rfl (by simp [Region.binds, a0, a1, a2, a3, a4, a5, a6, a7, a8])
        have a10 := not_ready (i := 10) hr hz rfl (by simp [Region.binds, a0, a1, a2, a3, a4, a5, a6, a7, a8, a9])
        have a11 := not_ready (i := 11) hr hz rfl (by simp [Region.binds, a0, a1, a2, a3, a4, a5, a6, a7, a8, a9, a10])
        have hY := hM0.get a11
        clear hr hz hv hZ a0 a1 a2 a3 a4 a5 a6 a7 a8 a9 a10 a11 hM0 hE
        go_wp2_with fail
        obtain ⟨g, hg1, hg2, hg3, _, hput⟩ := hY.put hlt (Nat.lt_succ_self i) hlt
        obtain ⟨ht, hl3⟩ := HT.out
        replace ht := ht.to hY.below hl3
        replace hl3 := Nat.lt_of_lt_of_le hl3 hY.below.size
        clear HBB
        obtain ⟨Wz, hWz⟩ : ∃ X : World, X = W' := ⟨_, rfl⟩
        rw [← hWz] at hput hg1 hg2 hg3 ht hl3 ⊢
        clear hWz hY
        go_upto_region 7 with fail
        refine wp_region_any (by kernel_rfl) ?_
        refine wpAny_inv (fun l a' w' => ∃ V2 : Nat → Value, ∃ x7 x8 : Value, a' = ⟨#[.int .i64 n, undef, .slice none 0 0, .pointer (some ⟨g3, 0, none⟩), .slice (some ⟨gO, 0, none⟩) d d, .int .i64 ↑i, .int .i64 n, .int .i64 (max n 0), .int .i64 ↑d, .slice (some ⟨gO, 0, none⟩) d d, .slice (some ⟨gO, 0, none⟩) d d, .int .i64 ↑d, .int .i64 ↑i, .bool true, .int .i64 ↑i, V 0, V 1, V 2, V 3, x4, x5, x6, V 7, V 8, x9, V 10, V2 0, V2 1, V2 2, V2 3, V2 4, V2 5, V2 6, x7, x8, V2 9, u36, undef], []⟩ ∧ OnFix l V2 (fun zz => List.getD [.slice (some ⟨gO, 0, none⟩) d d, .int .i64 i, .pointer (some ⟨gO, i, none⟩), .slice (some ⟨g, 0, none⟩) d d, .int .i64 i, .agg #[.bool false, .slice none 0 0, .bool false, .slice none 0 0, .slice none 0 0], .iface 45 (.agg #[.bool false, .slice none 0 0, .bool false, .slice none 0 0, .slice none 0 0]), undef, undef, .pointer (some ⟨g, i * 5, none⟩), undef] zz undef) [0, 1, 2, 3, 4, 5, 6, 9] ∧ Off l 10 (Below Wz.heap.size Wz w' ∧ On l 7 (SlotNum w' x7 (Cx.ofInt 1)) ∧ On l 8 (SlotNum w' x8 (Cx.ofInt 1))) ∧ On l 10 (MkP w1 gO d d (i + 1) (fun _ _ => True) idm w') ∧ Edg l [(10, 9), (9, 3), (10, 8), (8, 6), (6, 5), (8, 7)] ∧ l.size = 11) ?_ ?_ _ _ _ _ (by decide) ?_
        · intro l a' W' i hi hI
          obtain ⟨V2, x7, x8, rfl, hv, hZ, hM0, hE, hz⟩ := hI
          obtain ⟨hlt, hoff, hpre⟩ := ready_pre hi
          have hc : i ∈ [0, 1, 2, 3, 4, 5, 6, 7, 8, 9, 10] := (by decide : ∀ i, i < 11 → i ∈ [0, 1, 2, 3, 4, 5, 6, 7, 8, 9, 10]) i hlt
          simp only [List.mem_cons, List.not_mem_nil, or_false] at hc
          clear hi hlt
          rcases hc with rfl | rfl | rfl | rfl | rfl | rfl | rfl | rfl | rfl | rfl | rfl <;> (have hp := hpre _ rfl; simp [Region.binds] at hp; clear hpre)
          · skip
            have HV := Lib.hid hv
            clear hv
            refine wpOp_go rfl rfl (fun K hK => ?_)
            go_simp
            refine hK _ _ ?_
            exact ⟨_, _, _, rfl, HV.out.new (x := .slice (some ⟨gO, 0, none⟩) d d) rfl, hZ.keep.map (fun ⟨hb0, y7, y8⟩ => ⟨hb0, y7.keep (by decide), y8.keep (by decide)⟩), hM0.keep (by decide), hE.mono (by decide), by simp [hz]⟩
          · skip
            have HV := Lib.hid hv
            clear hv
            refine wpOp_go rfl rfl (fun K hK => ?_)
            go_simp
            refine hK _ _ ?_
            exact ⟨_, _, _, rfl, HV.out.new (x := .int .i64 i) rfl, hZ.keep.map (fun ⟨hb0, y7, y8⟩ => ⟨hb0, y7.keep (by decide), y8.keep (by decide)⟩), hM0.keep (by decide), hE.mono (by decide), by simp [hz]⟩
          · skip
            have e0 : V2 0 = .slice (some ⟨gO, 0, none⟩) d d := hv.get 0 (by decide) (by simp [hp])
            have e1 : V2 1 = .int .i64 i := hv.get 1 (by decide) (by simp [hp])
            have HV := Lib.hid ((hv.fixE e0 rfl).fixE e1 rfl)
            clear hv
            simp only [e0, e1]
            refine wpOp_go rfl rfl (fun K hK => ?_)
            go_simp
            refine hK _ _ ?_
            exact ⟨_, _, _, rfl, HV.out.new (x := .pointer (some ⟨gO, i, none⟩)) rfl, hZ.keep.map (fun ⟨hb0, y7, y8⟩ => ⟨hb0, y7.keep (by decide), y8.keep (by decide)⟩), hM0.keep (by decide), hE.mono (by decide), by simp [hz]⟩
          · skip
            have e2 : V2 2 = .pointer (some ⟨gO, i, none⟩) := hv.get 2 (by decide) (by simp [hp])
            have HV := Lib.hid (hv.fixE e2 rfl)
            clear hv
            simp only [e2]
            have hY := hZ.get (fun h => off hoff (hE.get 9 3 (by decide) (hE.get 10 9 (by decide) h)))
            have z := keepc hY.1 hg1 hg2
            refine wpOp_go rfl rfl (fun K hK => ?_)
            go_simp
            refine hK _ _ ?_
            exact ⟨_, _, _, rfl, HV.out.new (x := .slice (some ⟨g, 0, none⟩) d d) rfl, hZ.keep.map (fun ⟨hb0, y7, y8⟩ => ⟨hb0, y7.keep (by decide), y8.keep (by decide)⟩), hM0.keep (by decide), hE.mono (by decide), by simp [hz]⟩
          · skip
            have HV := Lib.hid hv
            clear hv
            refine wpOp_go rfl rfl (fun K hK => ?_)
            go_simp
            refine hK _ _ ?_
            exact ⟨_, _, _, rfl, HV.out.new (x := .int .i64 i) rfl, hZ.keep.map (fun ⟨hb0, y7, y8⟩ => ⟨hb0, y7.keep (by decide), y8.keep (by decide)⟩), hM0.keep (by decide), hE.mono (by decide), by simp [hz]⟩
          · skip
            have HV := Lib.hid hv
            clear hv
            have hY := hZ.get (fun h => off hoff (hE.get 6 5 (by decide) (hE.get 8 6 (by decide) (hE.get 10 8 (by decide) h))))
            obtain ⟨z0, z1, z2, z3, z4⟩ := ht
            have y0 := keepc hY.1 z0 hl3; have y1 := keepc hY.1 z1 hl3; have y2 := keepc hY.1 z2 hl3; have y3 := keepc hY.1 z3 hl3; have y4 := keepc hY.1 z4 hl3
            refine wpOp_go rfl rfl (fun K hK => ?_)
            go_simp
            refine hK _ _ ?_
            exact ⟨_, _, _, rfl, HV.out.new (x := .agg #[.bool false, .slice none 0 0, .bool false, .slice none 0 0, .slice none 0 0]) rfl, hZ.keep.map (fun ⟨hb0, y7, y8⟩ => ⟨hb0, y7.keep (by decide), y8.keep (by decide)⟩), hM0.keep (by decide), hE.mono (by decide), by simp [hz]⟩
          · skip
            have e5 : V2 5 = .agg #[.bool false, .slice none 0 0, .bool false, .slice none 0 0, .slice none 0 0] := hv.get 5 (by decide) (by simp [hp])
            have HV := Lib.hid (hv.fixE e5 rfl)
            clear hv
            simp only [e5]
            refine wpOp_go rfl rfl (fun K hK => ?_)
            go_simp
            refine hK _ _ ?_
            exact ⟨_, _, _, rfl, HV.out.new (x := .iface 45 (.agg #[.bool false, .slice none 0 0, .bool false, .slice none 0 0, .slice none 0 0])) rfl, hZ.keep.map (fun ⟨hb0, y7, y8⟩ => ⟨hb0, y7.keep (by decide), y8.keep (by decide)⟩), hM0.keep (by decide), hE.step (by simp [hp]), by simp [hz]⟩
          · skip
            have HV := Lib.hid hv
            clear hv
            have hY := hZ.get (fun h => off hoff (hE.get 8 7 (by decide) (hE.get 10 8 (by decide) h)))
            refine wpOp_go rfl rfl (fun K hK => ?_)
            go_wp2_with (first | (go_at_call 16; refine (int_any 1 _ (by omega) (by omega)).mono ?_; rintro e w3 ⟨E1, E2, E3, rfl, hN, hb⟩))
            try refine hK _ _ ?_
            exact ⟨_, _, _, rfl, HV.out.other (by decide), Off.new ⟨hY.1.trans (hb.mono hY.1.size), On.new (⟨E1, E2, E3, rfl, hN⟩), ((hY.2.2).keep (by decide)).map (fun h => h.to hb)⟩, fun h => absurd (hE.get 8 7 (by decide) (hE.get 10 8 (by decide) (on_ne h (by decide)))) (off hoff), hE.mono (by decide), by simp [hz]⟩
          · skip
            have e6 : V2 6 = .iface 45 (.agg #[.bool false, .slice none 0 0, .bool false, .slice none 0 0, .slice none 0 0]) := hv.get 6 (by decide) (by simp [hp])
            have HV := Lib.hid (hv.fixE e6 rfl)
            clear hv
            simp only [e6]
            have hY := hZ.get (fun h => off hoff (hE.get 10 8 (by decide) h))
            obtain ⟨G1, G2, G3, e0, hM⟩ := hY.2.1.get (by simp [hp])
            subst e0
            refine wpOp_go rfl rfl (fun K hK => ?_)
            go_wp2_with (first | (go_at_call 175; refine (of_five _ _ _ _ _ (Cx.ofInt 1) G1 G2 G3 _ hM rfl rfl rfl rfl rfl).mono ?_; rintro e w3 ⟨E1, E2, E3, rfl, hN, hb⟩))
            try refine hK _ _ ?_
            exact ⟨_, _, _, rfl, HV.out.other (by decide), Off.new ⟨hY.1.trans (hb.mono hY.1.size), ((hY.2.1).keep (by decide)).map (fun h => h.to hb), On.new (⟨E1, E2, E3, rfl, hN⟩)⟩, fun h => absurd (hE.get 10 8 (by decide) (on_ne h (by decide))) (off hoff), hE.step (by simp [hp]), by simp [hz]⟩
          · skip
            have e3 : V2 3 = .slice (some ⟨g, 0, none⟩) d d := hv.get 3 (by decide) (by simp [hp])
            have e4 : V2 4 = .int .i64 i := hv.get 4 (by decide) (by simp [hp])
            have HV := Lib.hid ((hv.fixE e3 rfl).fixE e4 rfl)
            clear hv
            simp only [e3, e4]
            refine wpOp_go rfl rfl (fun K hK => ?_)
            go_simp
            refine hK _ _ ?_
            exact ⟨_, _, _, rfl, HV.out.new (x := .pointer (some ⟨g, i * 5, none⟩)) rfl, hZ.keep.map (fun ⟨hb0, y7, y8⟩ => ⟨hb0, y7.keep (by decide), y8.keep (by decide)⟩), hM0.keep (by decide), hE.step (by simp [hp]), by simp [hz]⟩
          · skip
            have e9 : V2 9 = .pointer (some ⟨g, i * 5, none⟩) := hv.get 9 (by decide) (by simp [hp])
            have HV := Lib.hid (hv.fixE e9 rfl)
            clear hv
            simp only [e9]
            have hY := hZ.get (off hoff)
            obtain ⟨E1, E2, E3, e1, hN⟩ := hY.2.2.get (by simp [hp])
            subst e1
            obtain ⟨⟨u0, u1, u2, u3, u4, d0, d1, d2, d3, d4⟩, ⟨f0, f1, f2, f3, f4⟩, hfin⟩ := hput W' hY.1
            refine wpOp_go rfl rfl (fun K hK => ?_)
            go_simp
            refine hK _ _ ?_
            obtain ⟨XX, hX⟩ : ∃ XX : World, XX = set5o W' g (i * 5) (Cx.ofInt 1) E1 E2 E3 := ⟨_, rfl⟩
            have hw : set5o W' g (i * 5) (Cx.ofInt 1) E1 E2 E3 = XX := hX.symm
            unfold set5o at hw
            rw [hw]
            subst hX
            exact ⟨_, _, _, rfl, HV.out.other (by decide), Off.done (by omega), On.new (hfin (fun _ _ => True) idm _ E1 E2 E3 hN (if_pos rfl) (fun a b h _ => ⟨trivial, id0_at h⟩)), hE.step (by simp [hp]), by simp [hz]⟩
        · intro l a' W' hr hI
          obtain ⟨V2, x7, x8, rfl, hv, hZ, hM0, hE, hz⟩ := hI
          have a0 := not_ready (i := 0) hr hz rfl (by simp [Region.binds])
          have a1 := not_ready (i := 1) hr hz rfl (by simp [Region.binds, a0])
          have a2 := not_ready (i := 2) hr hz rfl (by simp [Region.binds, a0, a1])
          have a3 := not_ready (i := 3) hr hz rfl (by simp [Region.binds, a0, a1, a2])
          have a4 := not_ready (i := 4) hr hz rfl (by simp [Region.binds, a0, a1, a2, a3])
          have a5 := not_ready (i := 5) hr hz rfl (by simp [Region.binds, a0, a1, a2, a3, a4])
          have a6 := not_ready (i := 6) hr hz rfl (by simp [Region.binds, a0, a1, a2, a3, a4, a5])
          have a7 := not_ready (i := 7) hr hz rfl (by simp [Region.binds, a0, a1, a2, a3, a4, a5, a6])
          have a8 := not_ready (i := 8) hr hz rfl (by simp [Region.binds, a0, a1, a2, a3, a4, a5, a6, a7])
          have a9 := not_ready (i := 9) hr hz rfl (by simp [Region.binds, a0, a1, a2, a3, a4, a5, a6, a7, a8])
          have a10 := not_ready (i := 10) hr hz rfl (by simp [Region.binds, a0, a1, a2, a3, a4, a5, a6, a7, a8, a9])
          have hY := hM0.get a10
          clear hr hz hv hZ a0 a1 a2 a3 a4 a5 a6 a7 a8 a9 a10 hM0 hE
          go_wp2_with fail
          go_roundw
          case rel => exact ⟨i + 1, by omega, by go_num, hY⟩
          case measure => simp [intOf]; omega
        · exact ⟨fun zz => List.getD [u26, u27, u28, u29, u30, u31, u32, u33, u34, u35, undef] zz undef, _, _, rfl, OnFix.start, Off.new ⟨((Below.refl _ _).drew), fun h => absurd h (by decide), fun h => absurd h (by decide)⟩, fun h => absurd h (by decide), Edg.start, by simp⟩
      · exact ⟨fun zz => List.getD [u15, u16, u17, u18, u19, u20, u21, u22, u23, u24, u25, undef] zz undef, _, _, _, _, rfl, OnFix.start, Off.new ⟨((Below.refl _ _).drew), fun h => absurd h (by decide), fun h => absurd h (by decide), fun h => absurd h (by decide), fun h => absurd h (by decide)⟩, fun h => absurd h (by decide), Edg.start, by simp⟩
    · obtain rfl : i = d := by omega
      go_wp2_with fail
      go_ret
      obtain ⟨h1, h2⟩ := hB.fin (fun _ _ => trivial)
      exact ⟨_, _, rfl, h1, HB1.out.trans (h2.mono HB1.out.size)⟩
end Go.Proofs.YtdpjknjlhchmcaaGreat

namespace Go.Proofs.YtdpjknjlhchmcaaGreat
open Go.RowKit Pl
set_option linter.unusedVariables false
set_option linter.unusedSimpArgs false
/-- A matrix and an error. -/
def RetK (w : World) (k : Int) (n : Nat) (N : Nat → Nat) (f : Nat → Nat → Cx) (e : Ending) (w' : World) : Prop := ∃ A c, e = .returned (.tuple #[.slice A n c, .int .i64 k]) ∧ MatP w' A n N f ∧ Below w.heap.size w w'
def RetKQ (w : World) (k : Int) (n : Nat) (N : Nat → Nat) (f : Nat → Nat → Cx) (e : Ending) (w' : World) : Prop := ∃ A c, e = .returned (.tuple #[.slice A n c, .int .i64 k]) ∧ MatQ w' A n N f ∧ Below w.heap.size w w'
theorem RetMatE.k {w w' : World} {n : Nat} {N : Nat → Nat} {f : Nat → Nat → Cx} {e : Ending} (h : RetMatE w n N f e w') : RetK w 0 n N f e w' := h
theorem RetMatQE.k {w w' : World} {n : Nat} {N : Nat → Nat} {f : Nat → Nat → Cx} {e : Ending} (h : RetMatQE w n N f e w') : RetKQ w 0 n N f e w' := h
theorem RetErrE.k {w w' : World} {k : Int} {N : Nat → Nat} {f : Nat → Nat → Cx} {e : Ending} (h : RetErrE w k e w') : RetK w k 0 N f e w' := ⟨none, 0, h.1, ⟨fun _ => none, fun _ => 0, fun i hi => absurd hi (Nat.not_lt_zero _), fun i hi => absurd hi (Nat.not_lt_zero _)⟩, h.2⟩
theorem RetErrE.kq {w w' : World} {k : Int} {N : Nat → Nat} {f : Nat → Nat → Cx} {e : Ending} (h : RetErrE w k e w') : RetKQ w k 0 N f e w' := ⟨none, 0, h.1, ⟨fun _ => none, fun _ => 0, fun i hi => absurd hi (Nat.not_lt_zero _), fun i hi => absurd hi (Nat.not_lt_zero _)⟩, h.2⟩
theorem sz_id (i j : Nat) : sz 1000000 (idm i j) := by
  unfold idm
  split
  · exact (sz_int (K := 1) (by show ln 1 ≤ 1; rw [ln_one]; omega) (by omega)).mono (by decide)
  · exact (sz_int (K := 1) (by show ln 0 ≤ 1; rw [ln_zero]; omega) (by omega)).mono (by decide)
theorem dot_sz {f g : Nat → Nat → Cx} {i k : Nat} (j : Nat) (hf : ∀ t, t < j → sz 3 (f i t) ∧ sz 3 (g t k)) : sz (16 * 2 ^ j - 1) (dotC f g i k j) := by
  induction j with
  | zero =>
    have h := @fr_sz 0 0 1 15 (by omega) (by show ln 0 ≤ _; rw [ln_zero]; omega) (by show ln 0 ≤ _; rw [ln_zero]; omega) (ln_le (by decide))
    have e : fr 0 0 1 = Cx.zero := fr_eq (by omega) (by show ((0:Int):Rat) = (0:Rat) * _; rw [Rat.zero_mul]; rfl) (by show ((0:Int):Rat) = (0:Rat) * _; rw [Rat.zero_mul]; rfl)
    rw [e] at h; exact h
  | succ j ih =>
    have h1 := ih (fun t ht => hf t (by omega))
    obtain ⟨h2, h3⟩ := hf j (by omega)
    have hp : 1 ≤ 2 ^ j := Nat.one_le_two_pow
    have h4 : sz (16 * 2 ^ j - 1) ((f i j).mul (g j k)) := (sz_mul h2 h3).mono (by omega)
    have h5 := sz_add h1 h4
    have e : 2 * (16 * 2 ^ j - 1) + 1 ≤ 16 * 2 ^ (j + 1) - 1 := by rw [Nat.pow_succ]; omega
    exact h5.mono e
theorem small_even {n : Nat} {N : Nat → Nat} (hs : Smalls n N) (hv : Valid n N) : n ≤ 5 ∧ (n = 0 ∨ N 0 ≤ 5) := by
  refine hs.2.2 ?_
  rcases hv with h | ⟨h1, h2, h3⟩
  · exact ⟨by omega, fun i hi => absurd hi (by omega)⟩
  · exact ⟨h1, fun i hi => ⟨h3 i hi, by rw [h3 i hi]; exact h2⟩⟩
theorem products_both (na nq : Nat) (Na Nq : Nat → Nat) (f g : Nat → Nat → Cx) (ha : Smalls na Na) (hb : Smalls nq Nq) (hf : ∀ i j, i < na → j < Na i → sz 3 (f i j)) (hg : ∀ i j, i < nq → j < Nq i → sz 3 (g i j)) :
    ∃ k n' N' F', n' ≤ 1000 ∧ (∀ i, i < n' → N' i ≤ 1000) ∧ (∀ i j, i < n' → j < N' i → sz 1000000 (F' i j)) ∧
      (∀ w A c B c2, MatP w A na Na f → MatP w B nq Nq g → Calls Tryz.prog 22 #[.slice A na c, .slice B nq c2] w (RetK w k n' N' F')) ∧
      (∀ w A c B c2, MatQ w A na Na f → MatQ w B nq Nq g → Calls Tryz.prog 23 #[.slice A na c, .slice B nq c2] w (RetKQ w k n' N' F')) := by
  have hna : na ≤ 1000 := by have := ha.1; omega
  have hnq : nq ≤ 1000 := by have := hb.1; omega
  have hN : ∀ i, i < na → Na i ≤ 1000 := fun i hi => by have := ha.2.1 i hi; omega
  have hM : ∀ i, i < nq → Nq i ≤ 1000 := fun i hi => by have := hb.2.1 i hi; omega
  by_cases h : Valid na Na ∧ Valid nq Nq ∧ colN na Na = nq
  · obtain ⟨hva, hvb, hE⟩ := h
    have e5 := (small_even hb hvb).1
    have hNa := valid_col hva
    have hNq := valid_col hvb
    rw [hE] at hNa
    have hd : ∀ i k j, i < na → k < colN nq Nq → j ≤ nq → sz 300000 (dotC f g i k j) := fun i k j hi hk hj => (dot_sz j (fun t ht => ⟨hf i t hi (by rw [hNa i hi]; omega), hg t k (by omega) (by rw [hNq t (by omega)]; exact hk)⟩)).mono (by
      have : 2 ^ j ≤ 2 ^ 5 := Nat.pow_le_pow_right (by omega) (by omega)
      omega)
    have hS : ∀ i k j, i < na → k < colN nq Nq → j < nq → sz 100000 (f i j) ∧ sz 100000 (g j k) ∧ sz 300000 (dotC f g i k j) := fun i k j hi hk hj => ⟨(hf i j hi (by rw [hNa i hi]; exact hj)).mono (by decide), (hg j k hj (by rw [hNq j hj]; exact hk)).mono (by decide), hd i k j hi hk (by omega)⟩
    exact ⟨0, na, fun _ => colN nq Nq, fun i k => dotC f g i k nq, hna, fun _ _ => col_le hM, fun i k hi hk => (hd i k nq hi hk (Nat.le_refl _)).mono (by decide),
      fun w A c B c2 h1 h2 => (product_ok w A B na c nq c2 Na Nq f g h1 h2 hna hN hnq hM hva hvb hE hS).mono fun e w' h => h.k,
      fun w A c B c2 h1 h2 => (rproduct_ok w A B na c nq c2 Na Nq f g h1 h2 hna hN hnq hM hva hvb hE hS).mono fun e w' h => h.k⟩
  · exact ⟨4, 0, fun _ => 0, f, by omega, fun _ _ => by omega, fun i j hi => absurd hi (Nat.not_lt_zero _),
      fun w A c B c2 h1 h2 => (product_no w A B na c nq c2 Na Nq f g h1 h2 hna hN hnq hM h).mono fun e w' h => h.k,
      fun w A c B c2 h1 h2 => (rproduct_no w A B na c nq c2 Na Nq f g h1 h2 hna hN hnq hM h).mono fun e w' h => h.kq⟩
theorem adjoint_both (na : Nat) (Na : Nat → Nat) (f : Nat → Nat → Cx) (ha : Smalls na Na) (hf : ∀ i j, i < na → j < Na i → sz 3 (f i j)) :
    ∃ k n' N' F', n' ≤ 1000 ∧ (∀ i, i < n' → N' i ≤ 1000) ∧ (∀ i j, i < n' → j < N' i → sz 1000000 (F' i j)) ∧
      (∀ w A c, MatP w A na Na f → Calls Tryz.prog 25 #[.slice A na c] w (RetK w k n' N' F')) ∧
      (∀ w A c, MatQ w A na Na f → Calls Tryz.prog 26 #[.slice A na c] w (RetKQ w k n' N' F')) := by
  have hna : na ≤ 1000 := by have := ha.1; omega
  have hN : ∀ i, i < na → Na i ≤ 1000 := fun i hi => by have := ha.2.1 i hi; omega
  by_cases h : Valid na Na
  · have hNa := valid_col h
    exact ⟨0, colN na Na, fun _ => na, fun i j => (f j i).conj, col_le hN, fun _ _ => hna, fun i j hi hj => (sz_conj (hf j i hj (by rw [hNa j hj]; exact hi))).mono (by decide),
      fun w A c h1 => (adjoint_ok w A na c Na f h1 hna hN h).mono fun e w' h => h.k, fun w A c h1 => (radjoint_ok w A na c Na f h1 hna hN h).mono fun e w' h => h.k⟩
  · exact ⟨4, 0, fun _ => 0, f, by omega, fun _ _ => by omega, fun i j hi => absurd hi (Nat.not_lt_zero _),
      fun w A c h1 => (adjoint_no w A na c Na f h1 hna hN h).mono fun e w' h => h.k, fun w A c h1 => (radjoint_no w A na c Na f h1 hna hN h).mono fun e w' h => h.kq⟩
theorem tab_sz {w : World} {A : Option Addr} {n : Nat} {N : Nat → Nat} {X Y Z : Nat → Nat → Int} (h : Tables w A n N X Y Z) : ∀ i j, i < n → j < N i → sz 3 (ofv (X i j) (Y i j) (Z i j)) := by
  intro i j hi hj
  obtain ⟨R, K, _, h2⟩ := h
  obtain ⟨_, _, _, _, _, _, _, r0, r1, r2⟩ := h2 i hi j hj
  exact (sz_of r0 r1 r2).mono (by decide)
set_option maxRecDepth 100000 in
set_option maxHeartbeats 40000000 in
theorem products_walk (w : World) (A B : Option Addr) (na ca nq cq : Nat) (n : Int) (Na Nq : Nat → Nat) (X Y Z U V T : Nat → Nat → Int) (hA : Tables w A na Na X Y Z) (hB : Tables w B nq Nq U V T) (hna : na ≤ maxLen) (hnq : nq ≤ maxLen) (hNa : ∀ i, i < na → Na i ≤ maxLen) (hNq : ∀ i, i < nq → Nq i ≤ maxLen) :
    Calls Tryz.prog 4 #[.slice A na ca, .slice B nq cq, .int .i64 n] w (RetBool w true) := by
  obtain ⟨RA, KA, hGA, hRA⟩ := id hA
  obtain ⟨RB, KB, hGB, hRB⟩ := id hB
  have HSA := small_any w A na ca RA Na KA hGA hNa hna
  have HSB := Lib.hid (fun w1 (hb : Below w.heap.size w w1) => small_any w1 B nq cq RB Nq KB (hGB.to hb) hNq hnq)
  have zA := tab_sz hA
  have zB := tab_sz hB
  have HTA := Lib.hid hA; have HTB := Lib.hid hB
  clear hGA hRA hGB hRB hNa hNq hna hnq hA hB
  obtain ⟨f, hf⟩ : ∃ f : Nat → Nat → Cx, f = fun i j => ofv (X i j) (Y i j) (Z i j) := ⟨_, rfl⟩
  obtain ⟨g, hg⟩ : ∃ g : Nat → Nat → Cx, g = fun i j => ofv (U i j) (V i j) (T i j) := ⟨_, rfl⟩
  have ZA : Hid (∀ i j, i < na → j < Na i → sz 3 (f i j)) := Lib.hid (by rw [hf]; exact zA)
  have ZB : Hid (∀ i j, i < nq → j < Nq i → sz 3 (g i j)) := Lib.hid (by rw [hg]; exact zB)
  clear zA zB
  have Hf := Lib.hid hf; have Hg := Lib.hid hg
  clear hf hg
  go_enter Tryz.func4, Tryz.ntmps4
  go_wp2_with fail
  refine HSA.mono ?_
  rintro e w1 ⟨b1, rfl, hs1, hb1⟩
  clear HSA
  cases b1 with
  | false =>
    clear hs1
    go_wp2_with fail
    refine (awake_any _).mono ?_
    rintro e w2 ⟨rfl, hb2⟩
    go_wp2_with fail
    go_ret
    exact ⟨rfl, hb1.trans (hb2.mono hb1.size)⟩
  | true =>
  have SA := Lib.hid (hs1 rfl)
  clear hs1
  go_wp2_with fail
  refine (HSB.out w1 hb1).mono ?_
  rintro e w2 ⟨b2, rfl, hs2, hb2⟩
  clear HSB
  have hB := hb1.trans (hb2.mono hb1.size)
  clear hb1 hb2
  cases b2 with
  | false =>
    clear hs2
    go_wp2_with fail
    refine (awake_any _).mono ?_
    rintro e w3 ⟨rfl, hb3⟩
    go_wp2_with fail
    go_ret
    exact ⟨rfl, hB.trans (hb3.mono hB.size)⟩
  | true =>
  have SB := Lib.hid (hs2 rfl)
  clear hs2
  have hn1 : na ≤ 1000 := by have := SA.out.1; omega
  have hn2 : nq ≤ 1000 := by have := SB.out.1; omega
  have HN1 : Hid (∀ i, i < na → Na i ≤ 1000) := Lib.hid (fun i hi => by have := SA.out.2.1 i hi; omega)
  have HN2 : Hid (∀ i, i < nq → Nq i ≤ 1000) := Lib.hid (fun i hi => by have := SB.out.2.1 i hi; omega)
  have RWA : Hid (∀ w1, Below w.heap.size w w1 → Calls Tryz.prog 9 #[.slice A na ca] w1 (RetMatP w1 na Na f)) := Lib.hid (fun w1 hb => by rw [Hf.out]; exact rows_any w1 A na ca Na X Y Z (HTA.out.to hb) hn1 HN1.out)
  have RWB : Hid (∀ w1, Below w.heap.size w w1 → Calls Tryz.prog 9 #[.slice B nq cq] w1 (RetMatP w1 nq Nq g)) := Lib.hid (fun w1 hb => by rw [Hg.out]; exact rows_any w1 B nq cq Nq U V T (HTB.out.to hb) hn2 HN2.out)
  have RQA : Hid (∀ w1, Below w.heap.size w w1 → Calls Tryz.prog 13 #[.slice A na ca] w1 (RetMatQ w1 na Na f)) := Lib.hid (fun w1 hb => by rw [Hf.out]; exact refrows_any w1 A na ca Na X Y Z (HTA.out.to hb) hn1 HN1.out)
  have RQB : Hid (∀ w1, Below w.heap.size w w1 → Calls Tryz.prog 13 #[.slice B nq cq] w1 (RetMatQ w1 nq Nq g)) := Lib.hid (fun w1 hb => by rw [Hg.out]; exact refrows_any w1 B nq cq Nq U V T (HTB.out.to hb) hn2 HN2.out)
  obtain ⟨k1, n1, N1, F1, p1, p2, p3, p4, p5⟩ := products_both na nq Na Nq f g SA.out SB.out ZA.out ZB.out
  obtain ⟨k2, n2, N2, F2, q1, q2, q3, q4, q5⟩ := adjoint_both na Na f SA.out ZA.out
  have P2 := Lib.hid p2; have P3 := Lib.hid p3; have P4 := Lib.hid p4; have P5 := Lib.hid p5
  have Q2 := Lib.hid q2; have Q3 := Lib.hid q3; have Q4 := Lib.hid q4; have Q5 := Lib.hid q5
  clear p2 p3 p4 p5 q2 q3 q4 q5
  go_wp2_with fail
  refine (RWA.out _ hB).mono ?_
  rintro e wx ⟨A1, c1, rfl, m1, hb⟩
  replace hB := hB.trans (hb.mono hB.size)
  clear hb
  go_wp2_with fail
  refine (RWB.out _ hB).mono ?_
  rintro e wx ⟨A2, c2, rfl, m2, hb⟩
  replace m1 := m1.to hb
  replace hB := hB.trans (hb.mono hB.size)
  clear hb
  go_wp2_with fail
  refine (P4.out _ A1 c1 A2 c2 m1 m2).mono ?_
  rintro e wx ⟨A3, c3, rfl, m3, hb⟩
  replace hB := hB.trans (hb.mono hB.size)
  clear hb
  clear m1 m2
  go_wp2_with fail
  refine (RQA.out _ hB).mono ?_
  rintro e wx ⟨A4, c4, rfl, m4, hb⟩
  replace m3 := m3.to hb
  replace hB := hB.trans (hb.mono hB.size)
  clear hb
  go_wp2_with fail
  refine (RQB.out _ hB).mono ?_
  rintro e wx ⟨A5, c5, rfl, m5, hb⟩
  replace m3 := m3.to hb
  replace m4 := m4.to hb
  replace hB := hB.trans (hb.mono hB.size)
  clear hb
  go_wp2_with fail
  refine (P5.out _ A4 c4 A5 c5 m4 m5).mono ?_
  rintro e wx ⟨A6, c6, rfl, m6, hb⟩
  replace m3 := m3.to hb
  replace hB := hB.trans (hb.mono hB.size)
  clear hb
  clear m4 m5
  go_wp2_with fail
  refine (arerows_any _ A3 A6 n1 c3 c6 N1 F1 m3 m6 p1 P2.out P3.out).mono ?_
  rintro e wx ⟨rfl, hb⟩
  replace hB := hB.trans (hb.mono hB.size)
  clear hb
  clear m3 m6
  go_wp2_with fail
  refine (RWA.out _ hB).mono ?_
  rintro e wx ⟨B1, d1, rfl, m1, hb⟩
  replace hB := hB.trans (hb.mono hB.size)
  clear hb
  go_wp2_with fail
  refine (Q4.out _ B1 d1 m1).mono ?_
  rintro e wx ⟨B3, d3, rfl, m3, hb⟩
  replace hB := hB.trans (hb.mono hB.size)
  clear hb
  clear m1
  go_wp2_with fail
  refine (RQA.out _ hB).mono ?_
  rintro e wx ⟨B4, d4, rfl, m4, hb⟩
  replace m3 := m3.to hb
  replace hB := hB.trans (hb.mono hB.size)
  clear hb
  go_wp2_with fail
  refine (Q5.out _ B4 d4 m4).mono ?_
  rintro e wx ⟨B6, d6, rfl, m6, hb⟩
  replace m3 := m3.to hb
  replace hB := hB.trans (hb.mono hB.size)
  clear hb
  clear m4
  go_wp2_with fail
  refine (arerows_any _ B3 B6 n2 d3 d6 N2 F2 m3 m6 q1 Q2.out Q3.out).mono ?_
  rintro e wx ⟨rfl, hb⟩
  replace hB := hB.trans (hb.mono hB.size)
  clear hb
  clear m3 m6
  go_wp2_with fail
  refine (RWB.out _ hB).mono ?_
  rintro e wx ⟨C1, e1, rfl, m1, hb⟩
  replace hB := hB.trans (hb.mono hB.size)
  clear hb
  go_wp2_with fail
  refine (lift_any _ C1 nq e1 Nq g m1 hn2 HN2.out).mono ?_
  rintro e wx ⟨C3, e3, rfl, m3, hb⟩
  replace hB := hB.trans (hb.mono hB.size)
  clear hb
  clear m1
  go_wp2_with fail
  refine (RQB.out _ hB).mono ?_
  rintro e wx ⟨C4, e4, rfl, m4, hb⟩
  replace m3 := m3.to hb
  replace hB := hB.trans (hb.mono hB.size)
  clear hb
  go_wp2_with fail
  refine (arerows_any _ C3 C4 nq e3 e4 Nq g m3 m4 hn2 HN2.out (fun i j hi hj => (ZB.out i j hi hj).mono (by decide))).mono ?_
  rintro e wx ⟨rfl, hb⟩
  replace hB := hB.trans (hb.mono hB.size)
  clear hb
  clear m3 m4
  go_wp2_with fail
  refine (identity_any _ n).mono ?_
  rintro e wx ⟨D3, f3, rfl, m3, hb⟩
  replace hB := hB.trans (hb.mono hB.size)
  clear hb
  go_wp2_with fail
  refine (ridentity_any _ n).mono ?_
  rintro e wx ⟨D6, f6, rfl, m6, hb⟩
  replace m3 := m3.to hb
  replace hB := hB.trans (hb.mono hB.size)
  clear hb
  have hdn : idn n ≤ 32 := by unfold idn; split <;> (try split) <;> omega
  generalize idn n = dd at *
  go_wp2_with fail
  refine (arerows_any _ D3 D6 dd f3 f6 (fun _ => dd) idm m3 m6 (by omega) (fun _ _ => by omega) (fun i j _ _ => sz_id i j)).mono ?_
  rintro e wx ⟨rfl, hb⟩
  replace hB := hB.trans (hb.mono hB.size)
  clear hb
  go_wp2_with fail
  refine (awake_any _).mono ?_
  rintro e wx ⟨rfl, hb⟩
  replace hB := hB.trans (hb.mono hB.size)
  clear hb
  go_wp2_with fail
  go_ret
  exact ⟨rfl, hB⟩
end Go.Proofs.YtdpjknjlhchmcaaGreat

namespace Go.Proofs.YtdpjknjlhchmcaaGreat
open Go.ChangeShapes Go.WideShapes Go.ChangeAt Go.RowKit Go.Joins Go.Deep Pl
set_option linter.unusedVariables false
section
variable {H : Type} {enc : TypeId × Value → H} {P : Program}
/-- A slice of structs of three int64s, opened. -/
theorem open_triples_cs {W : World} {t e q : TypeId} {f0 f1 f2 : Field} {fuel : Nat} {cs : List Value} {x : DataW H × List MemPlace} (ht : P.underlying t = some (.slice e)) (he : P.underlying e = some (.struct #[f0, f1, f2])) (ce : P.cellsOf e = 3)
    (o0 : f0.offset = 0 ∧ f0.type = q) (o1 : f1.offset = 1 ∧ f1.type = q) (o2 : f2.offset = 2 ∧ f2.type = q) (hq : P.underlying q = some (.int .i64)) (cq : P.cellsOf q = 1)
    (hf : DataW.trod enc P W 0 (fun _ => true) true fuel t cs = some x) :
    ∃ (A : Option Addr) (len cap : Nat) (X Y Z : Nat → Int), cs = [.slice A len cap] ∧ len ≤ cap ∧ cap ≤ maxLen ∧ Triples W A len X Y Z := by
  rcases open_slice ht hf with ⟨hcs, _⟩ | ⟨a, len, cap, m, n, D, Pl, hcs, hb, hl, hm, hmm, hx, hel⟩
  · exact ⟨none, 0, 0, fun _ => 0, fun _ => 0, fun _ => 0, hcs, Nat.le_refl _, by unfold maxLen; omega, fun i hi => absurd hi (by omega)⟩
  · have hm' : m = cap := hmm
    have each : ∀ i, i < len → ∃ z : Int × Int × Int, a.spot = none ∧ W.cell? ⟨a.block, a.off + i * 3, none⟩ = some (.int .i64 z.1) ∧ W.cell? ⟨a.block, a.off + i * 3 + 1, none⟩ = some (.int .i64 z.2.1) ∧ W.cell? ⟨a.block, a.off + i * 3 + 2, none⟩ = some (.int .i64 z.2.2) ∧
        (Lit.int .i64 z.1).wf = true ∧ (Lit.int .i64 z.2.1).wf = true ∧ (Lit.int .i64 z.2.2).wf = true := by
      intro i hi
      obtain ⟨c0', h01, h02⟩ := hel 0 (by omega)
      obtain ⟨_, l0, hc0⟩ := World.cells?_some h01
      have hsp : a.spot = none := by
        rw [ce] at l0 hc0
        have e0 := hc0 0 (by omega)
        have ez : ((a.add (0 * 3)).add 0) = a := by simp [Addr.add]
        rw [ez] at e0
        cases hs : a.spot with
        | none => rfl
        | some x =>
          have hlen : 0 < c0'.length := by omega
          rw [List.getElem?_eq_getElem hlen] at e0
          simp only [World.cell?] at e0
          split at e0
          · simp [hs] at e0
          · cases e0
      obtain ⟨cs', h1, h2⟩ := hel i (by omega)
      rw [ce] at h1
      obtain ⟨_, hlen, hcell⟩ := World.cells?_some h1
      obtain ⟨xs, k, hk, hxy, _, hxl, hff⟩ := DataW.trod_struct he h2
      match xs, hxl, cs', hlen with
      | [y0, y1, y2], _, [v0, v1, v2], _ =>
        have g0 := hff 0 f0 rfl
        have g1 := hff 1 f1 rfl
        have g2 := hff 2 f2 rfl
        simp [o0.1, o0.2, o1.1, o1.2, o2.1, o2.2, cq] at g0 g1 g2
        obtain ⟨z0, e0, _, w0⟩ := DataW.trod_int hq g0
        obtain ⟨z1, e1, _, w1⟩ := DataW.trod_int hq g1
        obtain ⟨z2, e2, _, w2⟩ := DataW.trod_int hq g2
        have k0 := hcell 0 (by omega)
        have k1 := hcell 1 (by omega)
        have k2 := hcell 2 (by omega)
        rw [add_add, add_none _ hsp] at k0 k1 k2
        simp at e0 e1 e2
        subst e0 e1 e2
        exact ⟨(z0, z1, z2), hsp, by simpa using k0, by simpa [Nat.add_assoc] using k1, by simpa [Nat.add_assoc] using k2, w0, w1, w2⟩
    obtain ⟨z, hz⟩ := choose_lt each
    refine ⟨some a, len, cap, fun i => (z i).1, fun i => (z i).2.1, fun i => (z i).2.2, hcs, hl, hm, fun i hi => ?_⟩
    obtain ⟨hsp, c0, c1, c2, w0, w1, w2⟩ := hz i hi
    have hlt : a.block < W.heap.size := by
      obtain ⟨c0', h01, _⟩ := hel 0 (by omega)
      have := World.cells?_block h01 (by rw [ce]; omega)
      simpa [Addr.add] using this
    exact ⟨a.block, a.off, by cases a; simp_all, hlt, c0, c1, c2, bounds_i64 w0, bounds_i64 w1, bounds_i64 w2⟩
/-- A slice of slices of structs of three int64s, opened. -/
theorem open_tables {W : World} {u t e q : TypeId} {f0 f1 f2 : Field} {v : Value} {d : DataW H} {ps : List MemPlace} (hu : P.underlying u = some (.slice t)) (ct : P.cellsOf t = 1) (ht : P.underlying t = some (.slice e)) (he : P.underlying e = some (.struct #[f0, f1, f2])) (ce : P.cellsOf e = 3)
    (o0 : f0.offset = 0 ∧ f0.type = q) (o1 : f1.offset = 1 ∧ f1.type = q) (o2 : f2.offset = 2 ∧ f2.type = q) (hq : P.underlying q = some (.int .i64)) (cq : P.cellsOf q = 1)
    (hv : v.cells = #[v]) (h : DataW.Trod enc P W 0 (fun _ => true) true u v d ps) :
    ∃ (A : Option Addr) (len cap : Nat) (N : Nat → Nat) (X Y Z : Nat → Nat → Int), v = .slice A len cap ∧ len ≤ cap ∧ cap ≤ maxLen ∧ (∀ i, i < len → N i ≤ maxLen) ∧ Tables W A len N X Y Z := by
  obtain ⟨fuel, hf⟩ := h
  rw [hv] at hf
  rcases open_slice hu hf with ⟨hcs, _⟩ | ⟨a, len, cap, m, n, D, Pl, hcs, hb, hl, hm, hmm, hx, hel⟩
  · simp only [List.cons.injEq, and_true] at hcs
    exact ⟨none, 0, 0, fun _ => 0, fun _ _ => 0, fun _ _ => 0, fun _ _ => 0, hcs, Nat.le_refl _, by unfold maxLen; omega, fun i hi => absurd hi (by omega), fun _ => none, fun _ => 0, fun i hi => absurd hi (by omega), fun i hi => absurd hi (by omega)⟩
  · simp only [List.cons.injEq, and_true] at hcs
    have hm' : m = cap := hmm
    have each : ∀ i, i < len → ∃ z : (Option Addr × Nat × Nat) × (Nat → Int) × (Nat → Int) × (Nat → Int), a.spot = none ∧ W.cell? ⟨a.block, a.off + i, none⟩ = some (.slice z.1.1 z.1.2.1 z.1.2.2) ∧ z.1.2.1 ≤ maxLen ∧ Triples W z.1.1 z.1.2.1 z.2.1 z.2.2.1 z.2.2.2 := by
      intro i hi
      obtain ⟨c0', h01, h02⟩ := hel 0 (by omega)
      obtain ⟨_, l0, hc0⟩ := World.cells?_some h01
      have hsp : a.spot = none := by
        rw [ct] at l0 hc0
        have e0 := hc0 0 (by omega)
        have ez : ((a.add (0 * 1)).add 0) = a := by simp [Addr.add]
        rw [ez] at e0
        cases hs : a.spot with
        | none => rfl
        | some x =>
          have hlen : 0 < c0'.length := by omega
          rw [List.getElem?_eq_getElem hlen] at e0
          simp only [World.cell?] at e0
          split at e0
          · simp [hs] at e0
          · cases e0
      obtain ⟨cs', h1, h2⟩ := hel i (by omega)
      rw [ct] at h1
      obtain ⟨_, hlen, hcell⟩ := World.cells?_some h1
      obtain ⟨A, ln', cp, X, Y, Z, e, l1, l2, hT⟩ := open_triples_cs ht he ce o0 o1 o2 hq cq h2
      subst e
      have k0 := hcell 0 (by omega)
      rw [add_add, add_none _ hsp] at k0
      exact ⟨((A, ln', cp), X, Y, Z), hsp, by simpa using k0, Nat.le_trans l1 l2, hT⟩
    obtain ⟨z, hz⟩ := choose_lt each
    have hlt : 0 < len → a.block < W.heap.size := by
      intro h0
      obtain ⟨c0', h01, _⟩ := hel 0 (by omega)
      have := World.cells?_block h01 (by rw [ct]; omega)
      simpa [Addr.add] using this
    exact ⟨some a, len, cap, fun i => (z i).1.2.1, fun i => (z i).2.1, fun i => (z i).2.2.1, fun i => (z i).2.2.2, hcs, hl, hm, fun i hi => (hz i hi).2.2.1, fun i => (z i).1.1, fun i => (z i).1.2.2,
      fun i hi => ⟨a.block, a.off, by have := (hz i hi).1; cases a; simp_all, hlt (by omega), (hz i hi).2.1⟩, fun i hi => (hz i hi).2.2.2⟩
end
end Go.Proofs.YtdpjknjlhchmcaaGreat

namespace Go.Proofs.YtdpjknjlhchmcaaGreat
open Go.ChangeShapes Go.WideShapes Go.ChangeAt Go.RowKit Go.Joins Go.Deep Pl
set_option linter.unusedVariables false
theorem numProducts_own : ownKnob Tryz.prog.godebug = none := by kernel_rfl
theorem numProducts_kids : Kids Tryz.prog (· < Tryz.prog.types.size) := kids_rows (by kernel_rfl) (by kernel_rfl)
theorem numProducts_rows : ((List.range Tryz.prog.types.size).all fun t => match Tryz.prog.underlying t with | some (.slice e) => decide (0 < Tryz.prog.cellsOf e) | _ => true) = true := by kernel_rfl
theorem numProducts_full : ∀ t e, t < Tryz.prog.types.size → Tryz.prog.underlying t = some (.slice e) → 0 < Tryz.prog.cellsOf e := by
  intro t e ht hu
  have h := List.all_eq_true.1 numProducts_rows t (List.mem_range.2 ht)
  simp only [hu] at h
  simpa using h
theorem numProducts_parB : (Tryz.f4.params.toList.all fun t => decide (t < Tryz.prog.types.size)) = true := by kernel_rfl
theorem numProducts_par : ∀ t ∈ Tryz.f4.params.toList, t < Tryz.prog.types.size := by
  intro t ht
  simpa using List.all_eq_true.1 numProducts_parB t ht
set_option maxRecDepth 100000 in
theorem numProducts_lifted (os : Os) (started : os.Started) (H : Type) (enc : TypeId × Value → H) :
    ReturnsInHanded {} Tryz.checked os 4 .any (Rows.numProductsSpec.pre6 enc Tryz.prog Tryz.f4 Rows.numProductsRow.domain false) (Rows.numProductsSpec.post enc Tryz.prog Tryz.f4 false true false false) := by
  refine returnsInHanded_of_change (C := Tryz.checked) numProducts_own started (by kernel_rfl) Tryz.func4
    (ChangeSpec.witness6 (enc := enc) (C := Tryz.checked) false ⟨#[], #[.slice none 0 0, .slice none 0 0, .int .i64 0], []⟩ 8 (by kernel_rfl) (by kernel_rfl) (by kernel_rfl) (by kernel_rfl)) ?_
  intro W base args ds gs before hval0 hW hcnd _
  have hval : ∀ (j : Nat) t v, Tryz.f4.params[j]? = some t → args[j]? = some v → Value.okWide Tryz.prog W .any base t v := hval0
  have hW' := hW
  obtain ⟨p, q, hA0, hV, rfl, hfz, hnd⟩ := hW
  have hA : DataW.TrodAll enc Tryz.prog W 0 (fun _ => true) true Tryz.f4.params.toList args.toList ds p := hA0
  rw [Tryz.params4] at hA hval
  obtain ⟨v0, vs0, d0, ds0, p0, q0, hargs, rfl, rfl, h0, r0⟩ := trodAll_cons hA
  obtain ⟨v1, vs1, d1, ds1, p1, q1, rfl, rfl, rfl, h1, r1⟩ := trodAll_cons r0
  obtain ⟨v2, vs2, d2, ds2, p2, q2, rfl, rfl, rfl, h2, r2⟩ := trodAll_cons r1
  obtain ⟨rfl, rfl, rfl⟩ := trodAll_nil r2
  obtain rfl : args = #[v0, v1, v2] := by cases args; simp_all
  obtain ⟨rfl, rfl⟩ := trodVars_none hV
  have k0 : v0.cells = #[v0] := by obtain ⟨_, _, _, rfl⟩ := okWide_slice Tryz.underlying22 (hval 0 22 v0 rfl rfl); rfl
  have k1 : v1.cells = #[v1] := by obtain ⟨_, _, _, rfl⟩ := okWide_slice Tryz.underlying22 (hval 1 22 v1 rfl rfl); rfl
  obtain ⟨A, n, c, N, X, Y, Z, rfl, hc0, hc1, hN, hT⟩ := open_tables Tryz.underlying22 (by kernel_rfl) Tryz.underlying23 Tryz.underlying82 (by kernel_rfl) ⟨rfl, rfl⟩ ⟨rfl, rfl⟩ ⟨rfl, rfl⟩ Tryz.underlying2 (by kernel_rfl) k0 h0
  obtain ⟨B, m, d, M, U, V, T, rfl, hd0, hd1, hM, hT2⟩ := open_tables Tryz.underlying22 (by kernel_rfl) Tryz.underlying23 Tryz.underlying82 (by kernel_rfl) ⟨rfl, rfl⟩ ⟨rfl, rfl⟩ ⟨rfl, rfl⟩ Tryz.underlying2 (by kernel_rfl) k1 h1
  obtain ⟨k, rfl⟩ := okWide_int Tryz.underlying3 (hval 2 3 v2 rfl rfl)
  refine (products_walk W A B n c m d k N M X Y Z U V T hT hT2 (Nat.le_trans hc0 hc1) (Nat.le_trans hd0 hd1) hN hM).mono fun e W' ⟨he, hg⟩ => ?_
  subst he
  simp only [List.append_nil] at hW' hA0
  exact ⟨_, rfl, read_post numProducts_kids numProducts_full numProducts_par hW' hA0 (fun _ _ _ => trodAll_cons_mk (shut_bool Tryz.underlying4 _) trodAll_mk0) rfl (fun _ => rfl) hg⟩
theorem numProducts_over : Rows.numProductsRow.holds Tryz.pinned (OpenSpec.ofChange Rows.numProductsSpec) :=
  OpenClaim.holds_of_wide 4 Tryz.f4 rfl rfl rfl rfl rfl rfl rfl ⟨rfl, rfl, rfl, rfl, rfl⟩ rfl rfl rfl rfl rfl (by kernel_rfl) Tryz.func4 (by kernel_rfl)
    (of_decide_eq_true (by kernel_rfl)) (by unfold Func.isWrapper; first | (rw [if_pos (by decide +kernel)]; kernel_rfl) | (rw [if_neg (by decide +kernel)]; exact ⟨rfl, rfl⟩))
    (fun os started H enc _ => numProducts_lifted os started H enc)
/-- THE STATEMENT. -/
theorem numProducts_holds : Rows.NumProductsSaid := numProducts_over
#print axioms numProducts_holds
end Go.Proofs.YtdpjknjlhchmcaaGreat
