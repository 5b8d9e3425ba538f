/- 'nat.digits': the decimal digits. -/
import Derived.Test.YtgpmlhpgdalheaaGreatRev
import Derived.Deep.LoopGhost
import Derived.Maps.AppendAt
import Derived.Laws.BytesString
import Derived.Laws.Cells
namespace Go.Proofs.YtgpmlhpgdalheaaGreat
open Go.RowKit Pl
set_option linter.unusedVariables false
set_option linter.unusedSimpArgs false

/-- The decimal digits, the lowest one first. -/
def rd (n : Nat) : List Nat := if h : n = 0 then [] else n % 10 :: rd (n / 10)
termination_by n
decreasing_by omega
theorem rd_zero : rd 0 = [] := by rw [rd]; rfl
theorem rd_pos {n : Nat} (h : n ≠ 0) : rd n = n % 10 :: rd (n / 10) := by rw [rd, dif_neg h]
theorem rd_len {k : Nat} : ∀ {n : Nat}, n < 10 ^ k → (rd n).length ≤ k := by
  induction k with
  | zero => intro n h; have : n = 0 := by simpa using h
            subst this; rw [rd_zero]; simp
  | succ k ih =>
    intro n h
    by_cases hn : n = 0
    · subst hn; rw [rd_zero]; simp
    · rw [rd_pos hn, List.length_cons]
      have : n / 10 < 10 ^ k := by rw [Nat.div_lt_iff_lt_mul (by omega)]; rwa [Nat.pow_succ] at h
      have := ih this
      omega
theorem rd_ln (n : Nat) : (rd n).length ≤ 10 * ln n := by
  refine rd_len ?_
  have h := lt_of_ln (Nat.le_refl (ln n))
  rw [Nat.pow_mul]
  exact Nat.lt_of_lt_of_le h (Nat.pow_le_pow_left (by decide) _)
/-- One digit is taken. -/
theorem rd_step {q r m : Nat} (h : q ≠ 0 ∨ r ≠ 0) : rd (q * 10 ^ (m + 1) + r) = r % 10 :: rd (q * 10 ^ m + r / 10) := by
  have h0 : q * 10 ^ (m + 1) + r ≠ 0 := by
    rcases h with h | h
    · have : 0 < q * 10 ^ (m + 1) := Nat.mul_pos (Nat.pos_of_ne_zero h) (Nat.pow_pos (by omega))
      omega
    · omega
  have e : q * 10 ^ (m + 1) + r = 10 * (q * 10 ^ m) + r := by rw [Nat.pow_succ, ← Nat.mul_assoc, Nat.mul_comm]
  rw [rd_pos h0, e, Nat.mul_add_mod, Nat.mul_add_div (by omega)]
/-- The cells of digits. -/
def dcells (l : List Nat) : List Value := l.map fun d => .int .u8 ((48 + d : Nat) : Int)
theorem dcells_app (l : List Nat) (d : Nat) : dcells (l ++ [d]) = dcells l ++ [.int .u8 ((48 + d : Nat) : Int)] := by simp [dcells]
theorem Tryz.info_u8 : (Tryz.prog.info? 5).map (fun i => (i.zero, i.size, i.bytes)) = some (some (.int .u8 0), 1, 1) := by kernel_rfl
theorem Tryz.und_bytes : Tryz.prog.underlying 219 = some (.slice 5) := by kernel_rfl

theorem own_below {w w' : World} {b : Nat} {e : TypeId} {z : Nat} {v : Value} {n : Nat} {xs : List Value} (h : w.ownsRow b e z v n xs) (hb : Below w.heap.size w w') : w'.ownsRow b e z v n xs :=
  h.kept (row := none) ⟨hb.os, hb.tape, hb.output, hb.size, fun k hk _ => hb.block k hk⟩ (Decidable.em _)
theorem below_grown {w W W' : World} {row : Option Nat} (h : Below w.heap.size w W) (hg : W.grownBy W' row) (hr : ∀ k, row = some k → w.heap.size ≤ k) : Below w.heap.size w W' := h.grown hg h.size hr
theorem nat_grown {W W' : World} {b : Nat} {v : Value} {m n : Nat} {ds : List Nat} {A : Option Addr} (h : Nat32 W A n) (ho : W.ownsRow b 5 1 v m (dcells ds)) (hne : v = .slice none 0 0 ∨ ds ≠ []) (hg : W.grownBy W' v.ownBlock) : Nat32 W' A n := fun hn => by
  obtain ⟨g, e, hl, hc⟩ := h hn
  refine ⟨g, e, Nat.lt_of_lt_of_le hl hg.size, fun j hj => ?_⟩
  refine hg.cell (hc j hj) ?_
  show some g ≠ v.ownBlock
  intro e2
  rcases hne with rfl | hne
  · cases e2
  · have h0 := hc 0 (by omega)
    cases ds with
    | nil => exact hne rfl
    | cons d ds =>
      have := ho.cells e2.symm 0 (.int .u8 ((48 + d : Nat) : Int)) (by simp [dcells])
      rw [show (⟨g, 0, none⟩ : Addr).add 0 = ⟨g, 0, none⟩ by simp [Addr.add], h0] at this
      injection this with this; injection this with this; cases this

/-- The text of a number. -/
def dec (n : Nat) : ByteArray := if n = 0 then ⟨#[48]⟩ else ((rd n).reverse.map fun d => ((48 + d : Nat) : Int)).foldl (fun r n => r.push (UInt8.ofNat n.toNat)) ByteArray.empty
def RetStr (w : World) (s : ByteArray) (e : Ending) (w' : World) : Prop := e = .returned (.string s) ∧ Below w.heap.size w w'
theorem own_row {w : World} {b : Nat} {v : Value} {ds : List Nat} (h : w.ownsRow b 5 1 v ds.length (dcells ds)) (hne : ds ≠ []) :
    ∃ g cap f, v = .slice (some ⟨g, 0, none⟩) ds.length cap ∧ b ≤ g ∧ ds.length ≤ cap ∧ w.rowIs g 5 cap f ∧ ∀ t, t < ds.length → f t = .int .u8 ((48 + ds.getD t 0 : Nat) : Int) := by
  rcases h.2 with ⟨_, h0⟩ | ⟨g, cap, cur, hv, hb, hg, hn, _, hs, ht⟩
  · exact absurd (List.length_eq_zero_iff.1 h0) hne
  · refine ⟨g, cap, fun i => cur.getD i undef, hv, hb, hn, ⟨cur, hg, by omega, fun i hi => ?_⟩, fun t ht2 => ?_⟩
    · show cur[i]? = some (cur.getD i undef)
      rw [Array.getD_eq_getD_getElem?, Array.getElem?_eq_getElem (by omega)]; rfl
    · have e : (cur.toList.take (ds.length * 1))[t]? = (dcells ds)[t]? := by rw [ht]
      rw [List.getElem?_take_of_lt (by omega)] at e
      show cur.getD t undef = _
      rw [Array.getD_eq_getD_getElem?, ← Array.getElem?_toList, e]
      simp [dcells, List.getElem?_eq_getElem ht2]
theorem rev_cells {w : World} {g cap : Nat} {ds : List Nat} {f : Nat → Value} (h : w.rowIs g 5 cap (fun t => if t < ds.length then f (ds.length - 1 - t) else f t)) (hc : ds.length ≤ cap) (hf : ∀ t, t < ds.length → f t = .int .u8 ((48 + ds.getD t 0 : Nat) : Int)) (c : Nat) :
    (convert 219 9 (.slice (some ⟨g, 0, none⟩) ds.length c)).run Tryz.prog w = .ok (.string ((ds.reverse.map fun d => ((48 + d : Nat) : Int)).foldl (fun r n => r.push (UInt8.ofNat n.toNat)) ByteArray.empty)) w := by
  rw [run_convert_bytes_string w 219 9 5 _ _ _ Tryz.und_bytes (by kernel_rfl) (by kernel_rfl)]
  refine run_bytesToString w _ _ _ _ ?_
  have := run_loadCells_list (P := Tryz.prog) (w := w) ⟨g, 0, none⟩ ((ds.reverse.map fun d => ((48 + d : Nat) : Int)).map (Value.int .u8)) ?_
  · simpa using this
  · intro j v hj
    have hlt : j < ds.length := by
      have := (List.getElem?_eq_some_iff.1 hj).1
      simpa using this
    have e : (⟨g, 0, none⟩ : Addr).add j = ⟨g, j, none⟩ := by simp only [Addr.add]; split <;> simp_all
    rw [e, h.cell (i := j) (by omega)]
    simp only [hlt, if_true]
    rw [hf _ (by omega)]
    rw [← hj]
    simp only [List.map_map, List.getElem?_map, List.getElem?_reverse hlt, List.getElem?_eq_getElem (show ds.length - 1 - j < ds.length by omega), Option.map_some, Function.comp]
    congr 3
    simp [List.getElem?_eq_getElem (show ds.length - 1 - j < ds.length by omega)]

set_option maxHeartbeats 4000000 in
theorem digits_more (n : Nat) (A : Option Addr) (w : World) (hx : Nat32 w A n) (hbx : ln n ≤ 1099511627776) (h0 : n ≠ 0) :
    Calls Tryz.prog 187 #[.slice A (ln n) (ln n)] w (RetStr w (dec n)) := by
  obtain ⟨i0, hi, hz0, hz1, hz2⟩ := info_parts Tryz.info_u8
  have HN : Hid ((rd n).length ≤ 10 * ln n) := Lib.hid (rd_ln n)
  have HS : Hid (ln n ≤ 1099511627776) := Lib.hid hbx
  have t0 : decide (ln n = 0) = false := by have := ln_pos h0; rw [decide_eq_false_iff_not]; omega
  have t0' : ((ln n : Int) == 0) = false := by have := ln_pos h0; rw [beq_eq_false_iff_ne]; omega
  clear hbx
  go_enter Tryz.func187, Tryz.ntmps187
  go_wp2_with fail
  go_loopg [0, 3] n (fun m u v wr => ∃ (A : Option Addr) (ds : List Nat), u = .slice A (ln m) (ln m) ∧ Hid (ds ++ rd m = rd n) ∧ Hid (ln m ≤ 1099511627776) ∧ Nat32 wr A m ∧ wr.ownsRow w.heap.size 5 1 v ds.length (dcells ds) ∧ Hid (v = .slice none 0 0 ∨ ds ≠ []) ∧ Below w.heap.size w wr)
  case atStart => exact ⟨A, [], rfl, Lib.hid (by simp), HS, hx, World.ownsRow_nil _ _ _ _, Lib.hid (.inl rfl), Below.refl _ _⟩
  case round =>
    obtain ⟨A', ds, rfl, hD, hL, hA, hown, hnil, hb⟩ := hrel
    clear hx
    by_cases hm0 : gk = 0
    · have t1 : decide (0 < ln gk) = false := by rw [hm0, ln_zero]; rfl
      have hds : ds = rd n := by have := hD.out; rw [hm0, rd_zero] at this; simpa using this
      have hne : ds ≠ [] := by rw [hds, rd_pos h0]; simp
      obtain ⟨g, cap, f, hu, hg, hcap, hrow, hf⟩ := own_row hown hne
      have hpos : 0 < ds.length := by cases ds with | nil => exact absurd rfl hne | cons a l => simp
      have hlen : ds.length ≤ 140737488355328 := by have := HN.out; have := HS.out; rw [hds]; omega
      have HE : Hid (dec n = ((ds.reverse.map fun d => ((48 + d : Nat) : Int)).foldl (fun r n => r.push (UInt8.ofNat n.toNat)) ByteArray.empty)) := Lib.hid (by unfold dec; rw [if_neg h0, hds])
      have HB := Lib.hid hb
      clear hb hown hnil hD hds hA HN hm0
      subst hu
      go_wp2_with fail
      refine (rev_any wr g ds.length cap f (by exact hrow) _ hf hpos hcap hlen).mono ?_
      rintro e w1 ⟨rfl, hr1, hb1, hz1⟩
      have hcv := rev_cells hr1 hcap hf cap
      replace HB := Lib.hid (show Below w.heap.size w w1 from HB.out.trans (hb1.mono hg))
      rw [← HE.out] at hcv
      go_wp2_with fail
      go_ret
      exact ⟨rfl, HB.out⟩
    · have t1 : decide (0 < ln gk) = true := by have := ln_pos hm0; simpa using this
      have HB := Lib.hid hb
      have H0 := Lib.hid hm0
      clear hb hm0
      go_wp2_with fail
      refine (short_any gk 1000000000 A' wr hA (by have := hL.out; omega) (by omega) (by omega)).mono ?_
      rintro e w1 ⟨A1, rfl, h1, hb1⟩
      replace hown := own_below hown hb1
      replace HB := Lib.hid (hstep HB hb1)
      have HQ : Hid (ln (gk / 1000000000) ≤ 1099511627776) := Lib.hid (Nat.le_trans (ln_mono (Nat.div_le_self _ _)) hL.out)
      have HR : Hid (gk % 1000000000 < 10 ^ 9) := Lib.hid (Nat.mod_lt _ (by omega))
      have HD : Hid (ds ++ rd (gk / 1000000000 * 10 ^ 9 + gk % 1000000000) = rd n) := Lib.hid (by have := hD.out; rw [show gk / 1000000000 * 10 ^ 9 + gk % 1000000000 = gk by omega]; exact this)
      have HM : Hid (gk / 1000000000 < gk) := Lib.hid (by have := H0.out; omega)
      clear hb1 hD hA t1
      generalize gk % 1000000000 = r at *
      generalize gk / 1000000000 = q at *
      go_wp2_with fail
      go_loopg [3, 4, 5] 9 (fun m v rs kv wr => ∃ (kk r : Nat) (ds : List Nat), kv = .int .i64 (kk : Int) ∧ rs = .int .u32 (r : Int) ∧ Hid (kk + m = 9) ∧ Hid (r < 10 ^ m) ∧ Hid (ds ++ rd (q * 10 ^ m + r) = rd n) ∧ Nat32 wr A1 q ∧ wr.ownsRow w.heap.size 5 1 v ds.length (dcells ds) ∧ Hid (v = .slice none 0 0 ∨ ds ≠ []) ∧ Below w.heap.size w wr)
      case atStart => exact ⟨0, r, ds, rfl, rfl, Lib.hid rfl, HR, HD, h1, hown, hnil, HB.out⟩
      case round =>
        clear hown hnil HB HR HD h1 ds
        obtain ⟨kk, r, ds, rfl, rfl, hk, hr, hD, hq, hown, hnil, hb⟩ := hrel
        have HB := Lib.hid hb
        have HSn := HS.out
        clear hb
        have hc : gk = 0 ∨ (gk ≠ 0 ∧ q ≠ 0) ∨ (gk ≠ 0 ∧ q = 0 ∧ r ≠ 0) ∨ (gk ≠ 0 ∧ q = 0 ∧ r = 0) := by omega
        rcases hc with c | ⟨c, d⟩ | ⟨c, d, e⟩ | ⟨c, d, e⟩
        · have t2 : decide ((kk : Int) < 9) = false := by rw [decide_eq_false_iff_not]; have := hk.out; omega
          have C := Lib.hid c
          clear c
          go_wp2_with fail
          go_roundg q
          case measure => exact HM.out
          case rel => exact ⟨A1, ds, rfl, Lib.hid (by have h1 := hr.out; rw [C.out] at h1; have h2 := hD.out; rw [C.out] at h2; rw [show q * 10 ^ 0 + r = q by simp at h1; omega] at h2; exact h2), HQ, hq, hown, hnil, HB.out⟩
        · have t2 : decide ((kk : Int) < 9) = true := by rw [decide_eq_true_eq]; have := hk.out; omega
          have t3 : decide (0 < ln q) = true := by have := ln_pos d; simpa using this
          have E : Hid (rd (q * 10 ^ gk + r) = r % 10 :: rd (q * 10 ^ (gk - 1) + r / 10)) := Lib.hid (by have := @rd_step q r (gk - 1) (.inl d); rwa [show gk - 1 + 1 = gk by omega] at this)
          have C := Lib.hid c
          have hlen : ds.length + 1 ≤ 10 * ln n := by
            have e := congrArg List.length hD.out
            rw [E.out, List.length_append, List.length_cons] at e
            have := HN.out; omega
          have HD : Hid (ds ++ [r % 10] ++ rd (q * 10 ^ (gk - 1) + r / 10) = rd n) := Lib.hid (by have := hD.out; rw [E.out] at this; rw [← this]; simp)
          have HR2 : Hid (r / 10 < 10 ^ (gk - 1)) := Lib.hid (by have := hr.out; rw [show gk = gk - 1 + 1 by omega, Nat.pow_succ] at this; omega)
          have HK : Hid (kk + gk = 9) := hk
          have hkk : kk < 9 := by have := hk.out; omega
          have hr9 : r < 4294967296 := by
            have h1 := hr.out
            have h2 : 10 ^ gk ≤ 10 ^ 9 := Nat.pow_le_pow_right (by omega) (by have := HK.out; omega)
            have h3 : (10 : Nat) ^ 9 = 1000000000 := by decide
            omega
          clear hD hr hk E
          go_wp2_with (at_builtin; (refine wpList_append_own _ rfl _ _ 219 rfl w.heap.size 5 i0 (.int .u8 0) 1 1 Tryz.und_bytes hi hz0 hz1 hz2 rfl (by decide) _ _ _ rfl (hown.alloc _) ⟨wr.heap.size, 0, none⟩ 1 1 [_] rfl rfl (cell_one_new _ _ _) (by intro u hu; simp at hu; subst hu; rfl) (by unfold maxLen; omega) (by omega) (by have := HB.out.size; simp; omega) ?_; intro v1 w2 hown1 hgrow1 hnil1))
          replace hgrow1 : (wr.alloc (.cells #[.int .u8 (48 + (r : Int) % 10)] 5)).grownBy w2 u3.ownBlock := hgrow1
          have hq2 := nat_grown (hq.alloc (.cells #[.int .u8 (48 + (r : Int) % 10)] 5)) (hown.alloc (.cells #[.int .u8 (48 + (r : Int) % 10)] 5)) hnil.out hgrow1
          have hb2 : Below w.heap.size w w2 := (HB.out.alloc HB.out.size _).grown hgrow1 (by have := HB.out.size; simp; omega) (fun k h => (hown.lt k h).1)
          go_roundg (gk - 1)
          case measure => have := C.out; omega
          case rel => exact ⟨kk + 1, r / 10, ds ++ [r % 10], by simp, by simp, Lib.hid (by have := HK.out; have := C.out; omega), HR2, HD, hq2, by rw [List.length_append, dcells_app]; exact hown1, Lib.hid (.inr (by simp)), hb2⟩
        · have t2 : decide ((kk : Int) < 9) = true := by rw [decide_eq_true_eq]; have := hk.out; omega
          have t3 : decide (0 < ln q) = false := by rw [d, ln_zero]; rfl
          have t4 : decide (0 < r) = true := by rw [decide_eq_true_eq]; omega
          have t5 : decide (0 < (r : Int)) = true := by rw [decide_eq_true_eq]; omega
          have E : Hid (rd (q * 10 ^ gk + r) = r % 10 :: rd (q * 10 ^ (gk - 1) + r / 10)) := Lib.hid (by have := @rd_step q r (gk - 1) (.inr e); rwa [show gk - 1 + 1 = gk by omega] at this)
          have C := Lib.hid c
          clear d
          have hlen : ds.length + 1 ≤ 10 * ln n := by
            have e := congrArg List.length hD.out
            rw [E.out, List.length_append, List.length_cons] at e
            have := HN.out; omega
          have HD : Hid (ds ++ [r % 10] ++ rd (q * 10 ^ (gk - 1) + r / 10) = rd n) := Lib.hid (by have := hD.out; rw [E.out] at this; rw [← this]; simp)
          have HR2 : Hid (r / 10 < 10 ^ (gk - 1)) := Lib.hid (by have := hr.out; rw [show gk = gk - 1 + 1 by omega, Nat.pow_succ] at this; omega)
          have HK : Hid (kk + gk = 9) := hk
          have hkk : kk < 9 := by have := hk.out; omega
          have hr9 : r < 4294967296 := by
            have h1 := hr.out
            have h2 : 10 ^ gk ≤ 10 ^ 9 := Nat.pow_le_pow_right (by omega) (by have := HK.out; omega)
            have h3 : (10 : Nat) ^ 9 = 1000000000 := by decide
            omega
          clear hD hr hk E
          go_wp2_with (at_builtin; (refine wpList_append_own _ rfl _ _ 219 rfl w.heap.size 5 i0 (.int .u8 0) 1 1 Tryz.und_bytes hi hz0 hz1 hz2 rfl (by decide) _ _ _ rfl (hown.alloc _) ⟨wr.heap.size, 0, none⟩ 1 1 [_] rfl rfl (cell_one_new _ _ _) (by intro u hu; simp at hu; subst hu; rfl) (by unfold maxLen; omega) (by omega) (by have := HB.out.size; simp; omega) ?_; intro v1 w2 hown1 hgrow1 hnil1))
          replace hgrow1 : (wr.alloc (.cells #[.int .u8 (48 + (r : Int) % 10)] 5)).grownBy w2 u3.ownBlock := hgrow1
          have hq2 := nat_grown (hq.alloc (.cells #[.int .u8 (48 + (r : Int) % 10)] 5)) (hown.alloc (.cells #[.int .u8 (48 + (r : Int) % 10)] 5)) hnil.out hgrow1
          have hb2 : Below w.heap.size w w2 := (HB.out.alloc HB.out.size _).grown hgrow1 (by have := HB.out.size; simp; omega) (fun k h => (hown.lt k h).1)
          go_roundg (gk - 1)
          case measure => have := C.out; omega
          case rel => exact ⟨kk + 1, r / 10, ds ++ [r % 10], by simp, by simp, Lib.hid (by have := HK.out; have := C.out; omega), HR2, HD, hq2, by rw [List.length_append, dcells_app]; exact hown1, Lib.hid (.inr (by simp)), hb2⟩
        · have t2 : decide ((kk : Int) < 9) = true := by rw [decide_eq_true_eq]; have := hk.out; omega
          have t3 : decide (0 < ln q) = false := by rw [d, ln_zero]; rfl
          have t4 : decide (0 < r) = false := by rw [e]; rfl
          have t5 : decide (0 < (r : Int)) = false := by rw [e]; rfl
          have D := Lib.hid d
          have E := Lib.hid e
          clear c d e
          go_wp2_with fail
          go_roundg q
          case measure => exact HM.out
          case rel => exact ⟨A1, ds, rfl, Lib.hid (by have h2 := hD.out; rw [D.out, E.out] at h2; rw [D.out]; simpa using h2), HQ, hq, hown, hnil, HB.out⟩
theorem digits_zero (A : Option Addr) (w : World) : Calls Tryz.prog 187 #[.slice A 0 0] w (RetStr w (dec 0)) := by
  go_enter Tryz.func187, Tryz.ntmps187
  go_wp2_with fail
  go_ret
  exact ⟨rfl, Below.refl _ _⟩
/-- 'x.digits()'. -/
theorem digits_any (n : Nat) (A : Option Addr) (w : World) (hx : Nat32 w A n) (hbx : ln n ≤ 1099511627776) :
    Calls Tryz.prog 187 #[.slice A (ln n) (ln n)] w (RetStr w (dec n)) := by
  by_cases h : n = 0
  · subst h; rw [ln_zero]; exact digits_zero A w
  · exact digits_more n A w hx hbx h
end Go.Proofs.YtgpmlhpgdalheaaGreat
