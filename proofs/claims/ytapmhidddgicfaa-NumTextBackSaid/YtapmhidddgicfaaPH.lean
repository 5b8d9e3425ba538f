/- The text of a number as a list of bytes: no two numbers have the same; 'Parse' of it is the number. NumTextBack: the walk. -/
import Derived.Test.YtapmhidddgicfaaPE
import Derived.Test.YtapmhidddgicfaaText
import Derived.Test.YtapmhidddgicfaaLawB
import Derived.Test.YtapmhidddgicfaaAwakeF
namespace Go.Proofs.Ytapmhidddgicfaa
open Go.RowKit Pl
set_option linter.unusedVariables false
set_option linter.unusedSimpArgs false

/-- The magnitude of a real number. -/
def ML (q : Cx) : List UInt8 := dl (ab (na q)) ++ (if un q = 0 then [] else 47 :: dl (un q))
/-- The text of a real number. -/
def PL (q : Cx) : List UInt8 := sgL (sn (na q)) ++ ML q
theorem bs_one (c : UInt8) : (⟨#[c]⟩ : ByteArray) = bs [c] := rfl
theorem sgT_bs (q : Cx) : sgT q = bs (sgL (sn (na q)) ++ dl (ab (na q))) := by
  unfold sgT sgL
  cases sn (na q) <;> simp only [dec_dl, bs_one, bs_app] <;> rfl
theorem partT_bs (q : Cx) : partT q = bs (PL q) := by
  unfold partT PL ML
  by_cases h : un q = 0
  · rw [if_pos h, if_pos h, sgT_bs]; simp
  · rw [if_neg h, if_neg h, sgT_bs, bs_one, dec_dl, bs_app, bs_app]; simp
theorem un_nd {q : Cx} : (un q = 0 → nd q = 1) ∧ (un q ≠ 0 → nd q = un q) := by
  have := nd_ne0 q
  unfold un
  split
  · exact ⟨fun _ => by assumption, fun h => absurd rfl h⟩
  · exact ⟨fun h => absurd h this, fun _ => rfl⟩
theorem ML_mag (q : Cx) : magL (ab (na q)) (nd q) (ML q) := by
  unfold ML
  by_cases h : un q = 0
  · rw [if_pos h]; exact .inl ⟨by simp, un_nd.1 h⟩
  · rw [if_neg h, un_nd.2 h]; exact .inr rfl

theorem span_inj : ∀ {a b r s : List UInt8}, (∀ c ∈ a, dgt c = true) → (∀ c ∈ b, dgt c = true) → ndg r → ndg s → a ++ r = b ++ s → a = b ∧ r = s := by
  intro a
  induction a with
  | nil =>
    intro b r s _ hb hr _ h
    cases b with
    | nil => exact ⟨rfl, h⟩
    | cons c b =>
      have h1 := hr c (by rw [List.nil_append] at h; rw [h]; simp)
      rw [hb c (by simp)] at h1; cases h1
  | cons x a ih =>
    intro b r s ha hb hr hs h
    cases b with
    | nil =>
      have h1 := hs x (by rw [List.nil_append] at h; rw [← h]; simp)
      rw [ha x (by simp)] at h1; cases h1
    | cons y b =>
      simp at h
      obtain ⟨rfl, h⟩ := h
      obtain ⟨rfl, rfl⟩ := ih (fun c hc => ha c (by simp [hc])) (fun c hc => hb c (by simp [hc])) hr hs h
      exact ⟨rfl, rfl⟩
theorem dl_inj {n m : Nat} {r s : List UInt8} (hr : ndg r) (hs : ndg s) (h : dl n ++ r = dl m ++ s) : n = m ∧ r = s := by
  obtain ⟨h1, h2⟩ := span_inj (fun c hc => dl_dgt c hc) (fun c hc => dl_dgt c hc) hr hs h
  exact ⟨by rw [← vd_dl n, ← vd_dl m, h1], h2⟩
/-- What may stand behind a real number's text. -/
def nrd (r : List UInt8) : Prop := ∀ x ∈ r.head?, dgt x = false ∧ x ≠ 47
theorem sg_inj {a b : Bool} {r s : List UInt8} (hr : ∀ x ∈ r.head?, dgt x = true) (hs : ∀ x ∈ s.head?, dgt x = true) (h : sgL a ++ r = sgL b ++ s) : a = b ∧ r = s := by
  cases a <;> cases b
  · exact ⟨rfl, h⟩
  · have := hr 45 (by simp [sgL] at h; rw [h]; simp); cases this
  · have := hs 45 (by simp [sgL] at h; rw [← h]; simp); cases this
  · simp [sgL] at h; exact ⟨rfl, h⟩
theorem ML_head (q : Cx) (r : List UInt8) : ∀ x ∈ (ML q ++ r).head?, dgt x = true := mag_head (ML_mag q) r
theorem PL_inj {p q : Cx} {r s : List UInt8} (hp : nb p = 0) (hq : nb q = 0) (hr : nrd r) (hs : nrd s) (h : PL p ++ r = PL q ++ s) : p = q ∧ r = s := by
  unfold PL at h
  rw [List.append_assoc, List.append_assoc] at h
  obtain ⟨h1, h2⟩ := sg_inj (ML_head p r) (ML_head q s) h
  unfold ML at h2
  rw [List.append_assoc, List.append_assoc] at h2
  have key : ∀ {q : Cx} {r : List UInt8}, nrd r → ndg ((if un q = 0 then [] else 47 :: dl (un q)) ++ r) := by
    intro q r hr c hc
    split at hc
    · exact (hr c (by simpa using hc)).1
    · simp at hc; subst hc; rfl
  obtain ⟨h3, h4⟩ := dl_inj (key hr) (key hs) h2
  have h5 : un p = un q ∧ r = s := by
    by_cases u : un p = 0 <;> by_cases v : un q = 0
    · rw [if_pos u, if_pos v] at h4; exact ⟨by rw [u, v], by simpa using h4⟩
    · rw [if_pos u, if_neg v] at h4
      exact absurd rfl (hr 47 (by simp at h4; rw [h4]; simp)).2
    · rw [if_neg u, if_pos v] at h4
      exact absurd rfl (hs 47 (by simp at h4; rw [← h4]; simp)).2
    · rw [if_neg u, if_neg v] at h4
      simp at h4
      exact dl_inj (fun c hc => (hr c hc).1) (fun c hc => (hs c hc).1) h4
  refine ⟨cx_inj ?_ (by rw [hp, hq]) ?_, h5.2⟩
  · rw [← zi_self (na p), ← zi_self (na q), h1, h3]
  · by_cases u : un p = 0
    · rw [un_nd.1 u, un_nd.1 (h5.1 ▸ u)]
    · rw [un_nd.2 u, un_nd.2 (h5.1 ▸ u), h5.1]

/-- The real and the imaginary part, as real numbers. -/
def reQ (x : Cx) : Cx := fr (na x) 0 (nd x)
def imQ (x : Cx) : Cx := fr (nb x) 0 (nd x)
theorem real_nb (a : Int) (d : Nat) (hd : d ≠ 0) : nb (fr a 0 d) = 0 := by
  have h := (over_form (a := a) (b := 0) hd)
  have h1 : ab (nb (fr a 0 d)) = 0 := by rw [h.2.2.2.1]; show 0 / _ = 0; simp
  unfold ab at h1; omega
theorem real_sn (a : Int) (d : Nat) (hd : d ≠ 0) : sn (na (fr a 0 d)) = sn a := (over_form hd).1
def TL (x : Cx) : List UInt8 := if nb x = 0 then PL (reQ x) else if na x = 0 then PL (imQ x) ++ [105] else PL (reQ x) ++ (if sn (nb x) = true then PL (imQ x) ++ [105] else 43 :: (PL (imQ x) ++ [105]))
theorem textT_bs (x : Cx) : textT x = bs (TL x) := by
  unfold textT TL imT reQ imQ
  by_cases h : nb x = 0
  · rw [if_pos h, if_pos h, partT_bs]
  · rw [if_neg h, if_neg h]
    by_cases k : na x = 0
    · rw [if_pos k, if_pos k, partT_bs, bs_one, bs_app]
    · rw [if_neg k, if_neg k]
      cases sn (nb x)
      · simp only [partT_bs, bs_one, bs_app]; simp [bs_app]
      · simp only [partT_bs, bs_one, bs_app]; simp [bs_app]
theorem parts_inj {x y : Cx} (h : reQ x = reQ y) (k : imQ x = imQ y) : x = y := by
  have h1 := congrArg Cx.re h
  have h2 := congrArg Cx.re k
  rw [← fr_self x, ← fr_self y]
  unfold reQ fr at h1
  unfold imQ fr at h2
  unfold fr
  simp only at h1 h2
  rw [h1, h2]
theorem reQ_zero {x : Cx} (h : na x = 0) : reQ x = Cx.zero := by
  unfold reQ fr; rw [h]; show Cx.mk _ _ = Cx.mk _ _; simp [Rat.div_def, Rat.zero_mul]
theorem imQ_zero {x : Cx} (h : nb x = 0) : imQ x = Cx.zero := by
  unfold imQ fr; rw [h]; show Cx.mk _ _ = Cx.mk _ _; simp [Rat.div_def, Rat.zero_mul]
theorem nrd_nil : nrd [] := fun x hx => by simp at hx
theorem nrd_i : nrd [105] := fun x hx => by simp at hx; subst hx; exact ⟨rfl, by decide⟩
theorem PL_sign {x : Cx} (h : sn (nb x) = true) : ∃ t, PL (imQ x) = 45 :: t := by
  refine ⟨ML (imQ x), ?_⟩
  unfold PL
  rw [show sn (na (imQ x)) = true from (real_sn _ _ (nd_ne0 x)).trans h]; rfl
/-- What stands behind the real part's text of a number with two parts. -/
def T2 (x : Cx) : List UInt8 := if sn (nb x) = true then PL (imQ x) ++ [105] else 43 :: (PL (imQ x) ++ [105])
theorem T2_head (x : Cx) : (∃ t, T2 x = 45 :: t) ∨ ∃ t, T2 x = 43 :: t := by
  unfold T2
  by_cases h : sn (nb x) = true
  · rw [if_pos h]; obtain ⟨t, e⟩ := PL_sign h; exact .inl ⟨t ++ [105], by rw [e]; rfl⟩
  · rw [if_neg h]; exact .inr ⟨_, rfl⟩
theorem T2_nrd (x : Cx) : nrd (T2 x) := by
  intro c hc
  rcases T2_head x with ⟨t, e⟩ | ⟨t, e⟩ <;> (rw [e] at hc; simp at hc; subst hc; exact ⟨rfl, by decide⟩)
theorem T2_inj {x y : Cx} (h : T2 x = T2 y) : imQ x = imQ y := by
  have key : PL (imQ x) ++ [105] = PL (imQ y) ++ [105] := by
    unfold T2 at h
    by_cases a : sn (nb x) = true <;> by_cases b : sn (nb y) = true
    · rwa [if_pos a, if_pos b] at h
    · rw [if_pos a, if_neg b] at h; obtain ⟨t, e⟩ := PL_sign a; rw [e] at h; simp at h
    · rw [if_neg a, if_pos b] at h; obtain ⟨t, e⟩ := PL_sign b; rw [e] at h; simp at h
    · rw [if_neg a, if_neg b] at h; simpa using h
  exact (PL_inj (real_nb _ _ (nd_ne0 x)) (real_nb _ _ (nd_ne0 y)) nrd_i nrd_i key).1
theorem TL_inj {x y : Cx} (h : TL x = TL y) : x = y := by
  have rx := real_nb (na x) _ (nd_ne0 x)
  have ry := real_nb (na y) _ (nd_ne0 y)
  have ix := real_nb (nb x) _ (nd_ne0 x)
  have iy := real_nb (nb y) _ (nd_ne0 y)
  have hx := T2_head x
  have hy := T2_head y
  have ex : TL x = if nb x = 0 then PL (reQ x) ++ [] else if na x = 0 then PL (imQ x) ++ [105] else PL (reQ x) ++ T2 x := by unfold TL T2; rw [List.append_nil]
  have ey : TL y = if nb y = 0 then PL (reQ y) ++ [] else if na y = 0 then PL (imQ y) ++ [105] else PL (reQ y) ++ T2 y := by unfold TL T2; rw [List.append_nil]
  rw [ex, ey] at h
  by_cases a : nb x = 0 <;> by_cases b : nb y = 0
  · rw [if_pos a, if_pos b] at h
    exact parts_inj (PL_inj rx ry nrd_nil nrd_nil h).1 (by rw [imQ_zero a, imQ_zero b])
  · rw [if_pos a, if_neg b] at h
    by_cases c : na y = 0
    · rw [if_pos c] at h; have := (PL_inj rx iy nrd_nil nrd_i h).2; simp at this
    · rw [if_neg c] at h; have := (PL_inj rx ry nrd_nil (T2_nrd y) h).2; rcases hy with ⟨t, e⟩ | ⟨t, e⟩ <;> (rw [e] at this; simp at this)
  · rw [if_neg a, if_pos b] at h
    by_cases c : na x = 0
    · rw [if_pos c] at h; have := (PL_inj ix ry nrd_i nrd_nil h).2; simp at this
    · rw [if_neg c] at h; have := (PL_inj rx ry (T2_nrd x) nrd_nil h).2; rcases hx with ⟨t, e⟩ | ⟨t, e⟩ <;> (rw [e] at this; simp at this)
  · rw [if_neg a, if_neg b] at h
    by_cases c : na x = 0 <;> by_cases d : na y = 0
    · rw [if_pos c, if_pos d] at h
      exact parts_inj (by rw [reQ_zero c, reQ_zero d]) (PL_inj ix iy nrd_i nrd_i h).1
    · rw [if_pos c, if_neg d] at h; have := (PL_inj ix ry nrd_i (T2_nrd y) h).2; rcases hy with ⟨t, e⟩ | ⟨t, e⟩ <;> (rw [e] at this; simp at this)
    · rw [if_neg c, if_pos d] at h; have := (PL_inj rx iy (T2_nrd x) nrd_i h).2; rcases hx with ⟨t, e⟩ | ⟨t, e⟩ <;> (rw [e] at this; simp at this)
    · rw [if_neg c, if_neg d] at h
      have := PL_inj rx ry (T2_nrd x) (T2_nrd y) h
      exact parts_inj this.1 (T2_inj this.2)
theorem textT_inj {x y : Cx} (h : textT x = textT y) : x = y := by
  rw [textT_bs, textT_bs] at h
  exact TL_inj (by rw [← bs_list (TL x), ← bs_list (TL y), h])

theorem dl_len (n : Nat) : (dl n).length ≤ 10 * ln n + 1 := by
  have := dec_size n
  rwa [dec_dl, bs_size] at this
theorem PL_len {q : Cx} {K : Nat} (h : sz K q) : (PL q).length ≤ 20 * K + 4 := by
  have h1 := dl_len (ab (na q))
  have h2 := dl_len (un q)
  have h3 := un_ln q
  have h4 := h.1
  have h5 := h.2.2
  have h6 : (sgL (sn (na q))).length ≤ 1 := by cases sn (na q) <;> simp [sgL]
  unfold PL ML
  split <;> simp <;> omega
theorem TL_len {x : Cx} {K : Nat} (hK : K ≤ 50) (h : sz K x) : (TL x).length ≤ 4096 := by
  have h1 := PL_len (fr_sz (a := na x) (b := 0) (nd_ne0 x) h.1 (by show ln 0 ≤ _; rw [ln_zero]; omega) h.2.2)
  have h2 := PL_len (fr_sz (a := nb x) (b := 0) (nd_ne0 x) h.2.1 (by show ln 0 ≤ _; rw [ln_zero]; omega) h.2.2)
  unfold TL reQ imQ
  split
  · omega
  · split
    · simp; omega
    · split <;> simp <;> omega
theorem fr_parts (a b : Int) (d e : Nat) (hd : d ≠ 0) (he : e ≠ 0) : fr (a * (e : Int)) (b * (d : Int)) (d * e) = ⟨(a : Rat) / d, (b : Rat) / e⟩ := by
  have hd' := rat_ne (Nat.pos_of_ne_zero hd)
  have he' := rat_ne (Nat.pos_of_ne_zero he)
  unfold fr
  rw [Rat.intCast_mul, Rat.intCast_mul, Rat.natCast_mul, Rat.intCast_natCast, Rat.intCast_natCast]
  congr 1 <;> grind
theorem re_na {x : Cx} : ((na (reQ x) : Int) : Rat) / (nd (reQ x) : Nat) = x.re := by
  have h := congrArg Cx.re (fr_self (reQ x))
  have h2 := congrArg Cx.re (fr_self x)
  unfold fr at h h2
  simp only at h h2
  rw [h]; unfold reQ fr; simp only; exact h2
theorem im_na {x : Cx} : ((na (imQ x) : Int) : Rat) / (nd (imQ x) : Nat) = x.im := by
  have h := congrArg Cx.re (fr_self (imQ x))
  have h2 := congrArg Cx.im (fr_self x)
  unfold fr at h h2
  simp only at h h2
  rw [h]; unfold imQ fr; simp only; exact h2
/-- 'Parse' of a number's text: the number. -/
theorem parse_text (x : Cx) (w : World) (hl : (TL x).length ≤ 4096) :
    Calls Try.prog 33 #[.string (textT x)] w (RetNumE w 0 x) := by
  rw [textT_bs]
  have e1 := nd_ne0 (reQ x)
  have e2 := nd_ne0 (imQ x)
  by_cases h : nb x = 0
  · have et : TL x = PL (reQ x) := by unfold TL; rw [if_pos h]
    rw [et] at hl ⊢
    have hp := parse_real (sn (na (reQ x))) (ab (na (reQ x))) (nd (reQ x)) (ML (reQ x)) w (ML_mag _) hl e1
    rw [zi_self] at hp
    have e : fr (na (reQ x)) 0 (nd (reQ x)) = x := by
      have h3 := fr_self (reQ x)
      rw [show nb (reQ x) = 0 from real_nb _ _ (nd_ne0 x)] at h3
      rw [h3]
      have h4 := fr_self x
      rw [h] at h4
      exact h4
    rw [e] at hp
    exact hp
  · by_cases k : na x = 0
    · have et : TL x = PL (imQ x) ++ [105] := by unfold TL; rw [if_neg h, if_pos k]
      rw [et] at hl ⊢
      have hp := parse_imag0 (sn (na (imQ x))) (ab (na (imQ x))) (nd (imQ x)) (ML (imQ x)) w (ML_mag _) (by unfold PL at hl; simpa using hl) e2 0 rfl
      rw [zi_self] at hp
      have e : fr 0 (na (imQ x)) (nd (imQ x)) = x := by
        have h3 := im_na (x := x)
        have h4 := congrArg Cx.re (fr_self x)
        unfold fr at h4 ⊢
        simp only at h4
        rw [k] at h4
        rw [h3]
        cases x
        simp [Rat.div_def, Rat.zero_mul] at h4 ⊢
        exact h4
      rw [e] at hp
      unfold PL
      rw [List.append_assoc]
      exact hp
    · have e : fr (na (reQ x) * (nd (imQ x) : Int)) (na (imQ x) * (nd (reQ x) : Int)) (nd (reQ x) * nd (imQ x)) = x := by
        rw [fr_parts _ _ _ _ e1 e2, re_na, im_na]
      by_cases m : sn (nb x) = true
      · have et : TL x = PL (reQ x) ++ (PL (imQ x) ++ [105]) := by unfold TL; rw [if_neg h, if_neg k, if_pos m]
        have m2 : sn (na (imQ x)) = true := (real_sn _ _ (nd_ne0 x)).trans m
        have ep : PL (imQ x) = 45 :: ML (imQ x) := by unfold PL; rw [m2]; rfl
        rw [et, ep] at hl ⊢
        have hp := parse_two_true (sn (na (reQ x))) (ab (na (reQ x))) (nd (reQ x)) (ML (reQ x)) w (ML_mag _) (ab (na (imQ x))) (nd (imQ x)) (ML (imQ x)) (ML_mag _) (by unfold PL at hl; simpa using hl) e1 e2 _ _ _ rfl rfl rfl
        rw [← m2, zi_self, zi_self, e] at hp
        unfold PL
        rw [List.append_assoc]
        exact hp
      · have et : TL x = PL (reQ x) ++ 43 :: (PL (imQ x) ++ [105]) := by unfold TL; rw [if_neg h, if_neg k, if_neg m]
        have m2 : sn (na (imQ x)) = false := by rw [show sn (na (imQ x)) = sn (nb x) from real_sn _ _ (nd_ne0 x)]; simpa using m
        have ep : PL (imQ x) = ML (imQ x) := by unfold PL; rw [m2]; rfl
        rw [et, ep] at hl ⊢
        have hp := parse_two_false (sn (na (reQ x))) (ab (na (reQ x))) (nd (reQ x)) (ML (reQ x)) w (ML_mag _) (ab (na (imQ x))) (nd (imQ x)) (ML (imQ x)) (ML_mag _) (by unfold PL at hl; simpa using hl) e1 e2 _ _ _ rfl rfl rfl
        rw [← m2, zi_self, zi_self, e] at hp
        unfold PL
        rw [List.append_assoc]
        exact hp

end Go.Proofs.Ytapmhidddgicfaa

namespace Go.Proofs.Ytapmhidddgicfaa
open Go.RowKit Pl
set_option linter.unusedVariables false
set_option linter.unusedSimpArgs false

theorem text_lists {u v : Cx} : ((textT u).toList = (textT v).toList) ↔ u = v := by
  rw [ByteArray.toList_eq, ByteArray.toList_eq]
  exact ⟨fun h => textT_inj (bs_ext h), fun h => by rw [h]⟩

set_option maxHeartbeats 4000000 in
theorem textback_walk (a1 a2 a3 b1 b2 b3 c1 c2 c3 : Int) (x y z : Cx) (w : World) (zx : sz 2 x) (zy : sz 2 y) (zz : sz 2 z) (HA : ∀ w, Calls Try.prog 15 #[] w (RetBool w true)) (HO0 : ∀ w, Calls Try.prog 16 #[.agg #[.int .i64 a1, .int .i64 a2, .int .i64 a3]] w (RetNum w x)) (HO1 : ∀ w, Calls Try.prog 16 #[.agg #[.int .i64 b1, .int .i64 b2, .int .i64 b3]] w (RetNum w y)) (HO2 : ∀ w, Calls Try.prog 16 #[.agg #[.int .i64 c1, .int .i64 c2, .int .i64 c3]] w (RetNum w z)) :
    Calls Try.prog 7 #[.agg #[.int .i64 a1, .int .i64 a2, .int .i64 a3], .agg #[.int .i64 b1, .int .i64 b2, .int .i64 b3], .agg #[.int .i64 c1, .int .i64 c2, .int .i64 c3]] w (fun e w' => e = .returned (.bool true) ∧ Below w.heap.size w w') := by
  go_enter Try.func7, Try.ntmps7
  go_wp2_with fail
  obtain ⟨W, hW⟩ : ∃ W : World, W = (((w.alloc (.cells #[.int .i64 a1, .int .i64 a2, .int .i64 a3] 43)).alloc (.cells #[.int .i64 b1, .int .i64 b2, .int .i64 b3] 43)).alloc (.cells #[.int .i64 c1, .int .i64 c2, .int .i64 c3] 43)) := ⟨_, rfl⟩
  have s0_0 : W.cell? ⟨w.heap.size, 0, none⟩ = some (.int .i64 a1) := by subst hW; go_simp
  have s0_1 : W.cell? ⟨w.heap.size, 1, none⟩ = some (.int .i64 a2) := by subst hW; go_simp
  have s0_2 : W.cell? ⟨w.heap.size, 2, none⟩ = some (.int .i64 a3) := by subst hW; go_simp
  have s1_0 : W.cell? ⟨w.heap.size + 1, 0, none⟩ = some (.int .i64 b1) := by subst hW; go_simp
  have s1_1 : W.cell? ⟨w.heap.size + 1, 1, none⟩ = some (.int .i64 b2) := by subst hW; go_simp
  have s1_2 : W.cell? ⟨w.heap.size + 1, 2, none⟩ = some (.int .i64 b3) := by subst hW; go_simp
  have s2_0 : W.cell? ⟨w.heap.size + 1 + 1, 0, none⟩ = some (.int .i64 c1) := by subst hW; go_simp
  have s2_1 : W.cell? ⟨w.heap.size + 1 + 1, 1, none⟩ = some (.int .i64 c2) := by subst hW; go_simp
  have s2_2 : W.cell? ⟨w.heap.size + 1 + 1, 2, none⟩ = some (.int .i64 c3) := by subst hW; go_simp
  have HW : Below w.heap.size w W := by subst hW; exact ((((Below.refl w.heap.size w).alloc (Nat.le_refl _) _).alloc (by simp) _).alloc (by simp; omega) _)
  have l0 : w.heap.size < W.heap.size := by subst hW; simp <;> omega
  have l1 : w.heap.size + 1 < W.heap.size := by subst hW; simp <;> omega
  have l2 : w.heap.size + 1 + 1 < W.heap.size := by subst hW; simp
  rw [← hW]
  clear hW
  replace HW := Lib.hid HW
  obtain ⟨B0, hB0⟩ : ∃ B, B = w.heap.size + 1 + 1 + 1 := ⟨_, rfl⟩
  obtain ⟨u, hu⟩ : ∃ u, u = x.mul y := ⟨_, rfl⟩
  obtain ⟨v, hv⟩ : ∃ v, v = x.add z := ⟨_, rfl⟩
  have MU := fun A1 A2 A3 B1 B2 B3 (w : World) h1 h2 => mul_num x y A1 A2 A3 B1 B2 B3 w h1 h2 (zx.mono (by omega)) (zy.mono (by omega))
  have AD := fun A1 A2 A3 B1 B2 B3 (w : World) h1 h2 => add_num x z A1 A2 A3 B1 B2 B3 w h1 h2 (zx.mono (by omega)) (zz.mono (by omega))
  have zu : sz 5 u := by rw [hu]; exact sz_mul zx zy
  have zv : sz 5 v := by rw [hv]; exact sz_add zx zz
  rw [← hu] at MU
  rw [← hv] at AD
  clear hu hv
  go_upto_region 1 with fail
  go_cut [7, 8] (fun p q wx => SlotHas wx p u ∧ SlotHas wx q v ∧ Below w.heap.size w wx)
  case first =>
    refine wp_region_any (by kernel_rfl) ?_
    refine wpAny_inv (fun l a' w' => ∃ d0 q1 d2 q3 q4 d5 q6 d7 q8 q9 p10 p11 : Value, a' = ⟨#[.agg #[.int .i64 a1, .int .i64 a2, .int .i64 a3], .agg #[.int .i64 b1, .int .i64 b2, .int .i64 b3], .agg #[.int .i64 c1, .int .i64 c2, .int .i64 c3], .pointer (some ⟨w.heap.size, 0, none⟩), .pointer (some ⟨w.heap.size + 1, 0, none⟩), .pointer (some ⟨w.heap.size + 1 + 1, 0, none⟩), .bool false, p10, p11, undef, undef, undef, undef, d0, q1, d2, q3, q4, d5, q6, d7, q8, q9, undef, undef, undef, undef, undef, undef, undef, undef, undef, undef, undef, undef, undef, undef, undef, undef, undef, undef, undef, undef, undef, undef, undef, undef, undef, undef, undef, undef, undef, undef, undef, undef, undef, undef, undef, undef, undef, undef, undef, undef, undef, undef], []⟩ ∧ Below w.heap.size w w' ∧ w'.cell? ⟨w.heap.size, 0, none⟩ = some (.int .i64 a1) ∧ w'.cell? ⟨w.heap.size, 1, none⟩ = some (.int .i64 a2) ∧ w'.cell? ⟨w.heap.size, 2, none⟩ = some (.int .i64 a3) ∧ w'.cell? ⟨w.heap.size + 1, 0, none⟩ = some (.int .i64 b1) ∧ w'.cell? ⟨w.heap.size + 1, 1, none⟩ = some (.int .i64 b2) ∧ w'.cell? ⟨w.heap.size + 1, 2, none⟩ = some (.int .i64 b3) ∧ w'.cell? ⟨w.heap.size + 1 + 1, 0, none⟩ = some (.int .i64 c1) ∧ w'.cell? ⟨w.heap.size + 1 + 1, 1, none⟩ = some (.int .i64 c2) ∧ w'.cell? ⟨w.heap.size + 1 + 1, 2, none⟩ = some (.int .i64 c3) ∧ B0 ≤ w'.heap.size ∧ (on l 0 = true → d0 = .agg #[.int .i64 a1, .int .i64 a2, .int .i64 a3]) ∧ (on l 2 = true → d2 = .agg #[.int .i64 b1, .int .i64 b2, .int .i64 b3]) ∧ (on l 5 = true → d5 = .agg #[.int .i64 a1, .int .i64 a2, .int .i64 a3]) ∧ (on l 7 = true → d7 = .agg #[.int .i64 c1, .int .i64 c2, .int .i64 c3]) ∧ (on l 1 = true → SlotNum w' q1 (x)) ∧ (on l 3 = true → SlotNum w' q3 (y)) ∧ (on l 4 = true → SlotNum w' q4 (u)) ∧ (on l 6 = true → SlotNum w' q6 (x)) ∧ (on l 8 = true → SlotNum w' q8 (z)) ∧ (on l 9 = true → SlotNum w' q9 (v)) ∧ (on l 10 = true → SlotVar B0 w' p10) ∧ (on l 11 = true → SlotVar B0 w' p11) ∧ (on l 10 = true → on l 11 = true → p10 ≠ p11) ∧ (on l 12 = true → SlotHas w' p10 (u)) ∧ (on l 13 = true → SlotHas w' p11 (v)) ∧ (on l 12 = true → on l 10 = true) ∧ (on l 13 = true → on l 11 = true) ∧ l.size = 14) ?_ ?_ _ _ _ _ (by decide) ?_
    · intro l a' W' i hi hI
      obtain ⟨d0, q1, d2, q3, q4, d5, q6, d7, q8, q9, p10, p11, rfl, hB, b0_0, b0_1, b0_2, b1_0, b1_1, b1_2, b2_0, b2_1, b2_2, lB, hd0, hd2, hd5, hd7, hq1, hq3, hq4, hq6, hq8, hq9, hp10, hp11, hn10_11, hs12, hs13, ho12, ho13, hz⟩ := hI
      obtain ⟨hlt, hoff, hpre⟩ := ready_pre hi
      have hc : i = 0 ∨ i = 1 ∨ i = 2 ∨ i = 3 ∨ i = 4 ∨ i = 5 ∨ i = 6 ∨ i = 7 ∨ i = 8 ∨ i = 9 ∨ i = 10 ∨ i = 11 ∨ i = 12 ∨ i = 13 := by have : i < 14 := hlt; omega
      clear hi hlt
      rcases hc with rfl | rfl | rfl | rfl | rfl | rfl | rfl | rfl | rfl | rfl | rfl | rfl | rfl | rfl
      · have hp := hpre _ rfl
        simp [Region.binds] at hp
        clear hpre
        clear hp
        refine wpOp_go rfl rfl (fun K hK => ?_)
        go_simp
        refine hK _ _ ?_
        clear hK K
        exact ⟨_, _, _, _, _, _, _, _, _, _, _, _, rfl, hB, b0_0, b0_1, b0_2, b1_0, b1_1, b1_2, b2_0, b2_1, b2_2, lB, fun _ => rfl, fun h => hd2 (on_ne h (by decide)), fun h => hd5 (on_ne h (by decide)), fun h => hd7 (on_ne h (by decide)), fun h => hq1 (on_ne h (by decide)), fun h => hq3 (on_ne h (by decide)), fun h => hq4 (on_ne h (by decide)), fun h => hq6 (on_ne h (by decide)), fun h => hq8 (on_ne h (by decide)), fun h => hq9 (on_ne h (by decide)), fun h => hp10 (on_ne h (by decide)), fun h => hp11 (on_ne h (by decide)), fun h h2 => hn10_11 (on_ne h (by decide)) (on_ne h2 (by decide)), fun h => hs12 (on_ne h (by decide)), fun h => hs13 (on_ne h (by decide)), fun h => on_mono (ho12 (on_ne h (by decide))), fun h => on_mono (ho13 (on_ne h (by decide))), by simp [hz]⟩
      · have hp := hpre _ rfl
        simp [Region.binds] at hp
        clear hpre
        have e0 : d0 = .agg #[.int .i64 a1, .int .i64 a2, .int .i64 a3] := hd0 (by first | exact hp | exact hp.1 | exact hp.2 | simp [hp])
        subst e0
        clear hp
        refine wpOp_go rfl rfl (fun K hK => ?_)
        go_wp2_with (first | (go_at_call 16; refine (HO0 _).mono ?_; rintro e w1 ⟨A1, A2, A3, rfl, h1, hb⟩))
        try refine hK _ _ ?_
        exact ⟨_, _, _, _, _, _, _, _, _, _, _, _, rfl, hB.trans (hb.mono hB.size), keepc hb b0_0 (by omega), keepc hb b0_1 (by omega), keepc hb b0_2 (by omega), keepc hb b1_0 (by omega), keepc hb b1_1 (by omega), keepc hb b1_2 (by omega), keepc hb b2_0 (by omega), keepc hb b2_1 (by omega), keepc hb b2_2 (by omega), Nat.le_trans lB hb.size, fun h => rfl, fun h => hd2 (on_ne h (by decide)), fun h => hd5 (on_ne h (by decide)), fun h => hd7 (on_ne h (by decide)), fun _ => ⟨A1, A2, A3, rfl, h1⟩, fun h => (hq3 (on_ne h (by decide))).to hb, fun h => (hq4 (on_ne h (by decide))).to hb, fun h => (hq6 (on_ne h (by decide))).to hb, fun h => (hq8 (on_ne h (by decide))).to hb, fun h => (hq9 (on_ne h (by decide))).to hb, fun h => (hp10 (on_ne h (by decide))).to hb, fun h => (hp11 (on_ne h (by decide))).to hb, fun h h2 => hn10_11 (on_ne h (by decide)) (on_ne h2 (by decide)), fun h => (hs12 (on_ne h (by decide))).to hb, fun h => (hs13 (on_ne h (by decide))).to hb, fun h => on_mono (ho12 (on_ne h (by decide))), fun h => on_mono (ho13 (on_ne h (by decide))), by simp [hz]⟩
      · have hp := hpre _ rfl
        simp [Region.binds] at hp
        clear hpre
        clear hp
        refine wpOp_go rfl rfl (fun K hK => ?_)
        go_simp
        refine hK _ _ ?_
        clear hK K
        exact ⟨_, _, _, _, _, _, _, _, _, _, _, _, rfl, hB, b0_0, b0_1, b0_2, b1_0, b1_1, b1_2, b2_0, b2_1, b2_2, lB, fun h => hd0 (on_ne h (by decide)), fun _ => rfl, fun h => hd5 (on_ne h (by decide)), fun h => hd7 (on_ne h (by decide)), fun h => hq1 (on_ne h (by decide)), fun h => hq3 (on_ne h (by decide)), fun h => hq4 (on_ne h (by decide)), fun h => hq6 (on_ne h (by decide)), fun h => hq8 (on_ne h (by decide)), fun h => hq9 (on_ne h (by decide)), fun h => hp10 (on_ne h (by decide)), fun h => hp11 (on_ne h (by decide)), fun h h2 => hn10_11 (on_ne h (by decide)) (on_ne h2 (by decide)), fun h => hs12 (on_ne h (by decide)), fun h => hs13 (on_ne h (by decide)), fun h => on_mono (ho12 (on_ne h (by decide))), fun h => on_mono (ho13 (on_ne h (by decide))), by simp [hz]⟩
      · have hp := hpre _ rfl
        simp [Region.binds] at hp
        clear hpre
        have e0 : d2 = .agg #[.int .i64 b1, .int .i64 b2, .int .i64 b3] := hd2 (by first | exact hp | exact hp.1 | exact hp.2 | simp [hp])
        subst e0
        clear hp
        refine wpOp_go rfl rfl (fun K hK => ?_)
        go_wp2_with (first | (go_at_call 16; refine (HO1 _).mono ?_; rintro e w1 ⟨A1, A2, A3, rfl, h1, hb⟩))
        try refine hK _ _ ?_
        exact ⟨_, _, _, _, _, _, _, _, _, _, _, _, rfl, hB.trans (hb.mono hB.size), keepc hb b0_0 (by omega), keepc hb b0_1 (by omega), keepc hb b0_2 (by omega), keepc hb b1_0 (by omega), keepc hb b1_1 (by omega), keepc hb b1_2 (by omega), keepc hb b2_0 (by omega), keepc hb b2_1 (by omega), keepc hb b2_2 (by omega), Nat.le_trans lB hb.size, fun h => hd0 (on_ne h (by decide)), fun h => rfl, fun h => hd5 (on_ne h (by decide)), fun h => hd7 (on_ne h (by decide)), fun h => (hq1 (on_ne h (by decide))).to hb, fun _ => ⟨A1, A2, A3, rfl, h1⟩, fun h => (hq4 (on_ne h (by decide))).to hb, fun h => (hq6 (on_ne h (by decide))).to hb, fun h => (hq8 (on_ne h (by decide))).to hb, fun h => (hq9 (on_ne h (by decide))).to hb, fun h => (hp10 (on_ne h (by decide))).to hb, fun h => (hp11 (on_ne h (by decide))).to hb, fun h h2 => hn10_11 (on_ne h (by decide)) (on_ne h2 (by decide)), fun h => (hs12 (on_ne h (by decide))).to hb, fun h => (hs13 (on_ne h (by decide))).to hb, fun h => on_mono (ho12 (on_ne h (by decide))), fun h => on_mono (ho13 (on_ne h (by decide))), by simp [hz]⟩
      · have hp := hpre _ rfl
        simp [Region.binds] at hp
        clear hpre
        obtain ⟨X1, X2, X3, e1, n1⟩ := hq1 (by simp [hp])
        obtain ⟨Y1, Y2, Y3, e2, n2⟩ := hq3 (by simp [hp])
        subst e1; subst e2
        clear hp
        refine wpOp_go rfl rfl (fun K hK => ?_)
        go_wp2_with (first | (go_at_call 19; refine (MU X1 X2 X3 Y1 Y2 Y3 _ n1 n2).mono ?_; rintro e w1 ⟨A1, A2, A3, rfl, h1, hb⟩))
        try refine hK _ _ ?_
        exact ⟨_, _, _, _, _, _, _, _, _, _, _, _, rfl, hB.trans (hb.mono hB.size), keepc hb b0_0 (by omega), keepc hb b0_1 (by omega), keepc hb b0_2 (by omega), keepc hb b1_0 (by omega), keepc hb b1_1 (by omega), keepc hb b1_2 (by omega), keepc hb b2_0 (by omega), keepc hb b2_1 (by omega), keepc hb b2_2 (by omega), Nat.le_trans lB hb.size, fun h => hd0 (on_ne h (by decide)), fun h => hd2 (on_ne h (by decide)), fun h => hd5 (on_ne h (by decide)), fun h => hd7 (on_ne h (by decide)), fun h => (hq1 (on_ne h (by decide))).to hb, fun h => (hq3 (on_ne h (by decide))).to hb, fun _ => ⟨A1, A2, A3, rfl, h1⟩, fun h => (hq6 (on_ne h (by decide))).to hb, fun h => (hq8 (on_ne h (by decide))).to hb, fun h => (hq9 (on_ne h (by decide))).to hb, fun h => (hp10 (on_ne h (by decide))).to hb, fun h => (hp11 (on_ne h (by decide))).to hb, fun h h2 => hn10_11 (on_ne h (by decide)) (on_ne h2 (by decide)), fun h => (hs12 (on_ne h (by decide))).to hb, fun h => (hs13 (on_ne h (by decide))).to hb, fun h => on_mono (ho12 (on_ne h (by decide))), fun h => on_mono (ho13 (on_ne h (by decide))), by simp [hz]⟩
      · have hp := hpre _ rfl
        simp [Region.binds] at hp
        clear hpre
        clear hp
        refine wpOp_go rfl rfl (fun K hK => ?_)
        go_simp
        refine hK _ _ ?_
        clear hK K
        exact ⟨_, _, _, _, _, _, _, _, _, _, _, _, rfl, hB, b0_0, b0_1, b0_2, b1_0, b1_1, b1_2, b2_0, b2_1, b2_2, lB, fun h => hd0 (on_ne h (by decide)), fun h => hd2 (on_ne h (by decide)), fun _ => rfl, fun h => hd7 (on_ne h (by decide)), fun h => hq1 (on_ne h (by decide)), fun h => hq3 (on_ne h (by decide)), fun h => hq4 (on_ne h (by decide)), fun h => hq6 (on_ne h (by decide)), fun h => hq8 (on_ne h (by decide)), fun h => hq9 (on_ne h (by decide)), fun h => hp10 (on_ne h (by decide)), fun h => hp11 (on_ne h (by decide)), fun h h2 => hn10_11 (on_ne h (by decide)) (on_ne h2 (by decide)), fun h => hs12 (on_ne h (by decide)), fun h => hs13 (on_ne h (by decide)), fun h => on_mono (ho12 (on_ne h (by decide))), fun h => on_mono (ho13 (on_ne h (by decide))), by simp [hz]⟩
      · have hp := hpre _ rfl
        simp [Region.binds] at hp
        clear hpre
        have e0 : d5 = .agg #[.int .i64 a1, .int .i64 a2, .int .i64 a3] := hd5 (by first | exact hp | exact hp.1 | exact hp.2 | simp [hp])
        subst e0
        clear hp
        refine wpOp_go rfl rfl (fun K hK => ?_)
        go_wp2_with (first | (go_at_call 16; refine (HO0 _).mono ?_; rintro e w1 ⟨A1, A2, A3, rfl, h1, hb⟩))
        try refine hK _ _ ?_
        exact ⟨_, _, _, _, _, _, _, _, _, _, _, _, rfl, hB.trans (hb.mono hB.size), keepc hb b0_0 (by omega), keepc hb b0_1 (by omega), keepc hb b0_2 (by omega), keepc hb b1_0 (by omega), keepc hb b1_1 (by omega), keepc hb b1_2 (by omega), keepc hb b2_0 (by omega), keepc hb b2_1 (by omega), keepc hb b2_2 (by omega), Nat.le_trans lB hb.size, fun h => hd0 (on_ne h (by decide)), fun h => hd2 (on_ne h (by decide)), fun h => rfl, fun h => hd7 (on_ne h (by decide)), fun h => (hq1 (on_ne h (by decide))).to hb, fun h => (hq3 (on_ne h (by decide))).to hb, fun h => (hq4 (on_ne h (by decide))).to hb, fun _ => ⟨A1, A2, A3, rfl, h1⟩, fun h => (hq8 (on_ne h (by decide))).to hb, fun h => (hq9 (on_ne h (by decide))).to hb, fun h => (hp10 (on_ne h (by decide))).to hb, fun h => (hp11 (on_ne h (by decide))).to hb, fun h h2 => hn10_11 (on_ne h (by decide)) (on_ne h2 (by decide)), fun h => (hs12 (on_ne h (by decide))).to hb, fun h => (hs13 (on_ne h (by decide))).to hb, fun h => on_mono (ho12 (on_ne h (by decide))), fun h => on_mono (ho13 (on_ne h (by decide))), by simp [hz]⟩
      · have hp := hpre _ rfl
        simp [Region.binds] at hp
        clear hpre
        clear hp
        refine wpOp_go rfl rfl (fun K hK => ?_)
        go_simp
        refine hK _ _ ?_
        clear hK K
        exact ⟨_, _, _, _, _, _, _, _, _, _, _, _, rfl, hB, b0_0, b0_1, b0_2, b1_0, b1_1, b1_2, b2_0, b2_1, b2_2, lB, fun h => hd0 (on_ne h (by decide)), fun h => hd2 (on_ne h (by decide)), fun h => hd5 (on_ne h (by decide)), fun _ => rfl, fun h => hq1 (on_ne h (by decide)), fun h => hq3 (on_ne h (by decide)), fun h => hq4 (on_ne h (by decide)), fun h => hq6 (on_ne h (by decide)), fun h => hq8 (on_ne h (by decide)), fun h => hq9 (on_ne h (by decide)), fun h => hp10 (on_ne h (by decide)), fun h => hp11 (on_ne h (by decide)), fun h h2 => hn10_11 (on_ne h (by decide)) (on_ne h2 (by decide)), fun h => hs12 (on_ne h (by decide)), fun h => hs13 (on_ne h (by decide)), fun h => on_mono (ho12 (on_ne h (by decide))), fun h => on_mono (ho13 (on_ne h (by decide))), by simp [hz]⟩
      · have hp := hpre _ rfl
        simp [Region.binds] at hp
        clear hpre
        have e0 : d7 = .agg #[.int .i64 c1, .int .i64 c2, .int .i64 c3] := hd7 (by first | exact hp | exact hp.1 | exact hp.2 | simp [hp])
        subst e0
        clear hp
        refine wpOp_go rfl rfl (fun K hK => ?_)
        go_wp2_with (first | (go_at_call 16; refine (HO2 _).mono ?_; rintro e w1 ⟨A1, A2, A3, rfl, h1, hb⟩))
        try refine hK _ _ ?_
        exact ⟨_, _, _, _, _, _, _, _, _, _, _, _, rfl, hB.trans (hb.mono hB.size), keepc hb b0_0 (by omega), keepc hb b0_1 (by omega), keepc hb b0_2 (by omega), keepc hb b1_0 (by omega), keepc hb b1_1 (by omega), keepc hb b1_2 (by omega), keepc hb b2_0 (by omega), keepc hb b2_1 (by omega), keepc hb b2_2 (by omega), Nat.le_trans lB hb.size, fun h => hd0 (on_ne h (by decide)), fun h => hd2 (on_ne h (by decide)), fun h => hd5 (on_ne h (by decide)), fun h => rfl, fun h => (hq1 (on_ne h (by decide))).to hb, fun h => (hq3 (on_ne h (by decide))).to hb, fun h => (hq4 (on_ne h (by decide))).to hb, fun h => (hq6 (on_ne h (by decide))).to hb, fun _ => ⟨A1, A2, A3, rfl, h1⟩, fun h => (hq9 (on_ne h (by decide))).to hb, fun h => (hp10 (on_ne h (by decide))).to hb, fun h => (hp11 (on_ne h (by decide))).to hb, fun h h2 => hn10_11 (on_ne h (by decide)) (on_ne h2 (by decide)), fun h => (hs12 (on_ne h (by decide))).to hb, fun h => (hs13 (on_ne h (by decide))).to hb, fun h => on_mono (ho12 (on_ne h (by decide))), fun h => on_mono (ho13 (on_ne h (by decide))), by simp [hz]⟩
      · have hp := hpre _ rfl
        simp [Region.binds] at hp
        clear hpre
        obtain ⟨X1, X2, X3, e1, n1⟩ := hq6 (by simp [hp])
        obtain ⟨Y1, Y2, Y3, e2, n2⟩ := hq8 (by simp [hp])
        subst e1; subst e2
        clear hp
        refine wpOp_go rfl rfl (fun K hK => ?_)
        go_wp2_with (first | (go_at_call 17; refine (AD X1 X2 X3 Y1 Y2 Y3 _ n1 n2).mono ?_; rintro e w1 ⟨A1, A2, A3, rfl, h1, hb⟩))
        try refine hK _ _ ?_
        exact ⟨_, _, _, _, _, _, _, _, _, _, _, _, rfl, hB.trans (hb.mono hB.size), keepc hb b0_0 (by omega), keepc hb b0_1 (by omega), keepc hb b0_2 (by omega), keepc hb b1_0 (by omega), keepc hb b1_1 (by omega), keepc hb b1_2 (by omega), keepc hb b2_0 (by omega), keepc hb b2_1 (by omega), keepc hb b2_2 (by omega), Nat.le_trans lB hb.size, fun h => hd0 (on_ne h (by decide)), fun h => hd2 (on_ne h (by decide)), fun h => hd5 (on_ne h (by decide)), fun h => hd7 (on_ne h (by decide)), fun h => (hq1 (on_ne h (by decide))).to hb, fun h => (hq3 (on_ne h (by decide))).to hb, fun h => (hq4 (on_ne h (by decide))).to hb, fun h => (hq6 (on_ne h (by decide))).to hb, fun h => (hq8 (on_ne h (by decide))).to hb, fun _ => ⟨A1, A2, A3, rfl, h1⟩, fun h => (hp10 (on_ne h (by decide))).to hb, fun h => (hp11 (on_ne h (by decide))).to hb, fun h h2 => hn10_11 (on_ne h (by decide)) (on_ne h2 (by decide)), fun h => (hs12 (on_ne h (by decide))).to hb, fun h => (hs13 (on_ne h (by decide))).to hb, fun h => on_mono (ho12 (on_ne h (by decide))), fun h => on_mono (ho13 (on_ne h (by decide))), by simp [hz]⟩
      · have hp := hpre _ rfl
        simp [Region.binds] at hp
        clear hpre
        clear hp
        refine wpOp_go rfl rfl (fun K hK => ?_)
        go_simp
        refine hK _ _ ?_
        clear hK K
        have hb : Below W'.heap.size W' (W'.alloc (.cells #[.bool false, .slice none 0 0, .bool false, .slice none 0 0, .slice none 0 0] 27)) := (Below.refl _ _).alloc (Nat.le_refl _) _
        exact ⟨_, _, _, _, _, _, _, _, _, _, _, _, rfl, hB.trans (hb.mono hB.size), keepc hb b0_0 (by omega), keepc hb b0_1 (by omega), keepc hb b0_2 (by omega), keepc hb b1_0 (by omega), keepc hb b1_1 (by omega), keepc hb b1_2 (by omega), keepc hb b2_0 (by omega), keepc hb b2_1 (by omega), keepc hb b2_2 (by omega), Nat.le_trans lB hb.size, fun h => hd0 (on_ne h (by decide)), fun h => hd2 (on_ne h (by decide)), fun h => hd5 (on_ne h (by decide)), fun h => hd7 (on_ne h (by decide)), fun h => (hq1 (on_ne h (by decide))).to hb, fun h => (hq3 (on_ne h (by decide))).to hb, fun h => (hq4 (on_ne h (by decide))).to hb, fun h => (hq6 (on_ne h (by decide))).to hb, fun h => (hq8 (on_ne h (by decide))).to hb, fun h => (hq9 (on_ne h (by decide))).to hb, fun _ => SlotVar.new lB, fun h => (hp11 (on_ne h (by decide))).to hb, fun h h2 => Ne.symm (hp11 (on_ne h2 (by decide))).ne, fun h => absurd (ho12 (on_ne h (by decide))) (off hoff), fun h => (hs13 (on_ne h (by decide))).to hb, fun h => absurd (ho12 (on_ne h (by decide))) (off hoff), fun h => on_mono (ho13 (on_ne h (by decide))), by simp [hz]⟩
      · have hp := hpre _ rfl
        simp [Region.binds] at hp
        clear hpre
        clear hp
        refine wpOp_go rfl rfl (fun K hK => ?_)
        go_simp
        refine hK _ _ ?_
        clear hK K
        have hb : Below W'.heap.size W' (W'.alloc (.cells #[.bool false, .slice none 0 0, .bool false, .slice none 0 0, .slice none 0 0] 27)) := (Below.refl _ _).alloc (Nat.le_refl _) _
        exact ⟨_, _, _, _, _, _, _, _, _, _, _, _, rfl, hB.trans (hb.mono hB.size), keepc hb b0_0 (by omega), keepc hb b0_1 (by omega), keepc hb b0_2 (by omega), keepc hb b1_0 (by omega), keepc hb b1_1 (by omega), keepc hb b1_2 (by omega), keepc hb b2_0 (by omega), keepc hb b2_1 (by omega), keepc hb b2_2 (by omega), Nat.le_trans lB hb.size, fun h => hd0 (on_ne h (by decide)), fun h => hd2 (on_ne h (by decide)), fun h => hd5 (on_ne h (by decide)), fun h => hd7 (on_ne h (by decide)), fun h => (hq1 (on_ne h (by decide))).to hb, fun h => (hq3 (on_ne h (by decide))).to hb, fun h => (hq4 (on_ne h (by decide))).to hb, fun h => (hq6 (on_ne h (by decide))).to hb, fun h => (hq8 (on_ne h (by decide))).to hb, fun h => (hq9 (on_ne h (by decide))).to hb, fun h => (hp10 (on_ne h (by decide))).to hb, fun _ => SlotVar.new lB, fun h h2 => (hp10 (on_ne h (by decide))).ne, fun h => (hs12 (on_ne h (by decide))).to hb, fun h => absurd (ho13 (on_ne h (by decide))) (off hoff), fun h => on_mono (ho12 (on_ne h (by decide))), fun h => absurd (ho13 (on_ne h (by decide))) (off hoff), by simp [hz]⟩
      · have hp := hpre _ rfl
        simp [Region.binds] at hp
        clear hpre
        have hv := hp10 (by simp [hp])
        obtain ⟨A1, A2, A3, e1, n1⟩ := hq4 (by simp [hp])
        have hv2 := hv
        obtain ⟨g, e2, g1, g2, ⟨c, v1, v2, v3, v4, c0, c1, c2, c3, c4⟩, f0, f1, f2, f3, f4⟩ := hv2
        subst e1; subst e2
        refine wpOp_go rfl rfl (fun K hK => ?_)
        go_simp
        refine hK _ _ ?_
        clear hK K
        obtain ⟨X, hX⟩ : ∃ X : World, X = set5 W' g (u) A1 A2 A3 := ⟨_, rfl⟩
        have hw : set5 W' g (u) A1 A2 A3 = X := hX.symm
        unfold set5 at hw
        rw [hw]
        clear hw
        subst hX
        exact ⟨_, _, _, _, _, _, _, _, _, _, _, _, rfl, set5_below hB (by omega), set5_cell b0_0 (by omega), set5_cell b0_1 (by omega), set5_cell b0_2 (by omega), set5_cell b1_0 (by omega), set5_cell b1_1 (by omega), set5_cell b1_2 (by omega), set5_cell b2_0 (by omega), set5_cell b2_1 (by omega), set5_cell b2_2 (by omega), by rw [set5_size]; exact lB, fun h => by first | exact hd0 (on_ne h (by decide)) | rfl, fun h => by first | exact hd2 (on_ne h (by decide)) | rfl, fun h => by first | exact hd5 (on_ne h (by decide)) | rfl, fun h => by first | exact hd7 (on_ne h (by decide)) | rfl, fun h => SlotNum.set5 (hq1 (on_ne h (by decide))) c0, fun h => SlotNum.set5 (hq3 (on_ne h (by decide))) c0, fun h => SlotNum.set5 (hq4 (on_ne h (by decide))) c0, fun h => SlotNum.set5 (hq6 (on_ne h (by decide))) c0, fun h => SlotNum.set5 (hq8 (on_ne h (by decide))) c0, fun h => SlotNum.set5 (hq9 (on_ne h (by decide))) c0, fun h => SlotVar.self5 hv, fun h => SlotVar.set5 (hp11 (on_ne h (by decide))) (Ne.symm (hn10_11 (by simp [hp]) (by simp [hp]))), fun h h2 => hn10_11 (on_ne h (by decide)) (on_ne h2 (by decide)), fun h => SlotHas.mk5 hv n1, fun h => SlotHas.set5 (hs13 (on_ne h (by decide))) (Ne.symm (hn10_11 (by simp [hp]) (by simp [hp]))) c0, fun _ => on_mono (by simp [hp]), fun h => on_mono (ho13 (on_ne h (by decide))), by simp [hz]⟩
      · have hp := hpre _ rfl
        simp [Region.binds] at hp
        clear hpre
        have hv := hp11 (by simp [hp])
        obtain ⟨A1, A2, A3, e1, n1⟩ := hq9 (by simp [hp])
        have hv2 := hv
        obtain ⟨g, e2, g1, g2, ⟨c, v1, v2, v3, v4, c0, c1, c2, c3, c4⟩, f0, f1, f2, f3, f4⟩ := hv2
        subst e1; subst e2
        refine wpOp_go rfl rfl (fun K hK => ?_)
        go_simp
        refine hK _ _ ?_
        clear hK K
        obtain ⟨X, hX⟩ : ∃ X : World, X = set5 W' g (v) A1 A2 A3 := ⟨_, rfl⟩
        have hw : set5 W' g (v) A1 A2 A3 = X := hX.symm
        unfold set5 at hw
        rw [hw]
        clear hw
        subst hX
        exact ⟨_, _, _, _, _, _, _, _, _, _, _, _, rfl, set5_below hB (by omega), set5_cell b0_0 (by omega), set5_cell b0_1 (by omega), set5_cell b0_2 (by omega), set5_cell b1_0 (by omega), set5_cell b1_1 (by omega), set5_cell b1_2 (by omega), set5_cell b2_0 (by omega), set5_cell b2_1 (by omega), set5_cell b2_2 (by omega), by rw [set5_size]; exact lB, fun h => by first | exact hd0 (on_ne h (by decide)) | rfl, fun h => by first | exact hd2 (on_ne h (by decide)) | rfl, fun h => by first | exact hd5 (on_ne h (by decide)) | rfl, fun h => by first | exact hd7 (on_ne h (by decide)) | rfl, fun h => SlotNum.set5 (hq1 (on_ne h (by decide))) c0, fun h => SlotNum.set5 (hq3 (on_ne h (by decide))) c0, fun h => SlotNum.set5 (hq4 (on_ne h (by decide))) c0, fun h => SlotNum.set5 (hq6 (on_ne h (by decide))) c0, fun h => SlotNum.set5 (hq8 (on_ne h (by decide))) c0, fun h => SlotNum.set5 (hq9 (on_ne h (by decide))) c0, fun h => SlotVar.set5 (hp10 (on_ne h (by decide))) (hn10_11 (by simp [hp]) (by simp [hp])), fun h => SlotVar.self5 hv, fun h h2 => hn10_11 (on_ne h (by decide)) (on_ne h2 (by decide)), fun h => SlotHas.set5 (hs12 (on_ne h (by decide))) (hn10_11 (by simp [hp]) (by simp [hp])) c0, fun h => SlotHas.mk5 hv n1, fun h => on_mono (ho12 (on_ne h (by decide))), fun _ => on_mono (by simp [hp]), by simp [hz]⟩
    · intro l a' W' hr hI
      obtain ⟨d0, q1, d2, q3, q4, d5, q6, d7, q8, q9, p10, p11, rfl, hB, b0_0, b0_1, b0_2, b1_0, b1_1, b1_2, b2_0, b2_1, b2_2, lB, hd0, hd2, hd5, hd7, hq1, hq3, hq4, hq6, hq8, hq9, hp10, hp11, hn10_11, hs12, hs13, ho12, ho13, hz⟩ := hI
      have a0 := not_ready (i := 0) hr hz rfl (by simp [Region.binds])
      have a1 := not_ready (i := 1) hr hz rfl (by simp [Region.binds, a0])
      have a2 := not_ready (i := 2) hr hz rfl (by simp [Region.binds, a0, a1])
      have a3 := not_ready (i := 3) hr hz rfl (by simp [Region.binds, a0, a1, a2])
      have a4 := not_ready (i := 4) hr hz rfl (by simp [Region.binds, a0, a1, a2, a3])
      have a5 := not_ready (i := 5) hr hz rfl (by simp [Region.binds, a0, a1, a2, a3, a4])
      have a6 := not_ready (i := 6) hr hz rfl (by simp [Region.binds, a0, a1, a2, a3, a4, a5])
      have a7 := not_ready (i := 7) hr hz rfl (by simp [Region.binds, a0, a1, a2, a3, a4, a5, a6])
      have a8 := not_ready (i := 8) hr hz rfl (by simp [Region.binds, a0, a1, a2, a3, a4, a5, a6, a7])
      have a9 := not_ready (i := 9) hr hz rfl (by simp [Region.binds, a0, a1, a2, a3, a4, a5, a6, a7, a8])
      have a10 := not_ready (i := 10) hr hz rfl (by simp [Region.binds, a0, a1, a2, a3, a4, a5, a6, a7, a8, a9])
      have a11 := not_ready (i := 11) hr hz rfl (by simp [Region.binds, a0, a1, a2, a3, a4, a5, a6, a7, a8, a9, a10])
      have a12 := not_ready (i := 12) hr hz rfl (by simp [Region.binds, a0, a1, a2, a3, a4, a5, a6, a7, a8, a9, a10, a11])
      have a13 := not_ready (i := 13) hr hz rfl (by simp [Region.binds, a0, a1, a2, a3, a4, a5, a6, a7, a8, a9, a10, a11, a12])
      clear hr
      replace hs12 := hs12 a12
      replace hs13 := hs13 a13
      clear b0_0 b0_1 b0_2 b1_0 b1_1 b1_2 b2_0 b2_1 b2_2 hd0 hd2 hd5 hd7 hq1 hq3 hq4 hq6 hq8 hq9 hp10 hp11 hn10_11 ho12 ho13 hz
      go_wp2_with fail
      go_meet
      exact ⟨hs12, hs13, hB⟩
    · exact ⟨_, _, _, _, _, _, _, _, _, _, _, _, rfl, ⟨HW.out.os, HW.out.tape, HW.out.output, HW.out.size, HW.out.block⟩, s0_0, s0_1, s0_2, s1_0, s1_1, s1_2, s2_0, s2_1, s2_2, by subst hB0; exact l2, fun h => absurd h (by decide), fun h => absurd h (by decide), fun h => absurd h (by decide), fun h => absurd h (by decide), fun h => absurd h (by decide), fun h => absurd h (by decide), fun h => absurd h (by decide), fun h => absurd h (by decide), fun h => absurd h (by decide), fun h => absurd h (by decide), fun h => absurd h (by decide), fun h => absurd h (by decide), fun h _ => absurd h (by decide), fun h => absurd h (by decide), fun h => absurd h (by decide), fun h => absurd h (by decide), fun h => absurd h (by decide), by simp⟩
  case rest =>
    obtain ⟨hs0, hs1, hB⟩ := hcut
    obtain ⟨g0, X01, X02, X03, e0, V0⟩ := hs0.at
    subst e0
    obtain ⟨g1, X11, X12, X13, e1, V1⟩ := hs1.at
    subst e1
    clear hs0 hs1 hB0 HO0 HO1 HO2 MU AD zx zy zz HW s0_0 s0_1 s0_2 s1_0 s1_1 s1_2 s2_0 s2_1 s2_2 l0 l1 l2
    replace HW := Lib.hid hB
    clear hB
    obtain ⟨tV0_0, tV0_1, tV0_2, tV0_3, tV0_4⟩ := V0.2.1
    obtain ⟨tV1_0, tV1_1, tV1_2, tV1_3, tV1_4⟩ := V1.2.1
    go_wp2_with fail
    refine (text_any u X01 X02 X03 _ (by exact V0.2.2) (zu.mono (by omega))).mono ?_
    rintro e w20 ⟨rfl, hb⟩
    clear tV0_0 tV0_1 tV0_2 tV0_3 tV0_4 tV1_0 tV1_1 tV1_2 tV1_3 tV1_4
    replace V0 := VarAt.to V0 hb
    replace V1 := VarAt.to V1 hb
    replace HW := Lib.hid (hstep HW hb)
    clear hb
    obtain ⟨tV0_0, tV0_1, tV0_2, tV0_3, tV0_4⟩ := V0.2.1
    obtain ⟨tV1_0, tV1_1, tV1_2, tV1_3, tV1_4⟩ := V1.2.1
    go_wp2_with fail
    refine (parse_text u _ (TL_len (by omega) zu)).mono ?_
    rintro e w21 ⟨X21, X22, X23, rfl, hq, hb⟩
    clear tV0_0 tV0_1 tV0_2 tV0_3 tV0_4 tV1_0 tV1_1 tV1_2 tV1_3 tV1_4
    replace V0 := VarAt.to V0 hb
    replace V1 := VarAt.to V1 hb
    replace HW := Lib.hid (hstep HW hb)
    clear hb
    go_upto_region 3 with fail
    obtain ⟨X, hX⟩ : ∃ X : World, X = w21.alloc (.cells #[.bool (sn (na u)), .slice X21 (ln (ab (na u))) (ln (ab (na u))), .bool (sn (nb u)), .slice X22 (ln (ab (nb u))) (ln (ab (nb u))), .slice X23 (ln (un u)) (ln (un u))] 27) := ⟨_, rfl⟩
    rw [← hX]
    have hb : Below w21.heap.size w21 X := by rw [hX]; exact (Below.refl _ _).alloc (Nat.le_refl _) _
    have V2 : VarAt X w21.heap.size u X21 X22 X23 := ⟨by rw [hX]; simp, ⟨by subst hX; go_simp, by subst hX; go_simp, by subst hX; go_simp, by subst hX; go_simp, by subst hX; go_simp⟩, hq.to hb⟩
    clear hX hq
    replace V0 := VarAt.to V0 hb
    replace V1 := VarAt.to V1 hb
    replace HW := Lib.hid (hstep HW hb)
    clear hb
    obtain ⟨g2, hg⟩ : ∃ g, g = w21.heap.size := ⟨_, rfl⟩
    rw [← hg] at V2 ⊢
    clear hg
    obtain ⟨tV0_0, tV0_1, tV0_2, tV0_3, tV0_4⟩ := V0.2.1
    obtain ⟨tV1_0, tV1_1, tV1_2, tV1_3, tV1_4⟩ := V1.2.1
    obtain ⟨tV2_0, tV2_1, tV2_2, tV2_3, tV2_4⟩ := V2.2.1
    go_wp2_with fail
    refine (text_any v X11 X12 X13 _ (by exact V1.2.2) (zv.mono (by omega))).mono ?_
    rintro e w30 ⟨rfl, hb⟩
    clear tV0_0 tV0_1 tV0_2 tV0_3 tV0_4 tV1_0 tV1_1 tV1_2 tV1_3 tV1_4 tV2_0 tV2_1 tV2_2 tV2_3 tV2_4
    replace V0 := VarAt.to V0 hb
    replace V1 := VarAt.to V1 hb
    replace V2 := VarAt.to V2 hb
    replace HW := Lib.hid (hstep HW hb)
    clear hb
    obtain ⟨tV0_0, tV0_1, tV0_2, tV0_3, tV0_4⟩ := V0.2.1
    obtain ⟨tV1_0, tV1_1, tV1_2, tV1_3, tV1_4⟩ := V1.2.1
    obtain ⟨tV2_0, tV2_1, tV2_2, tV2_3, tV2_4⟩ := V2.2.1
    go_wp2_with fail
    refine (parse_text v _ (TL_len (by omega) zv)).mono ?_
    rintro e w31 ⟨X31, X32, X33, rfl, hq, hb⟩
    clear tV0_0 tV0_1 tV0_2 tV0_3 tV0_4 tV1_0 tV1_1 tV1_2 tV1_3 tV1_4 tV2_0 tV2_1 tV2_2 tV2_3 tV2_4
    replace V0 := VarAt.to V0 hb
    replace V1 := VarAt.to V1 hb
    replace V2 := VarAt.to V2 hb
    replace HW := Lib.hid (hstep HW hb)
    clear hb
    go_upto_region 4 with fail
    obtain ⟨X, hX⟩ : ∃ X : World, X = w31.alloc (.cells #[.bool (sn (na v)), .slice X31 (ln (ab (na v))) (ln (ab (na v))), .bool (sn (nb v)), .slice X32 (ln (ab (nb v))) (ln (ab (nb v))), .slice X33 (ln (un v)) (ln (un v))] 27) := ⟨_, rfl⟩
    rw [← hX]
    have hb : Below w31.heap.size w31 X := by rw [hX]; exact (Below.refl _ _).alloc (Nat.le_refl _) _
    have V3 : VarAt X w31.heap.size v X31 X32 X33 := ⟨by rw [hX]; simp, ⟨by subst hX; go_simp, by subst hX; go_simp, by subst hX; go_simp, by subst hX; go_simp, by subst hX; go_simp⟩, hq.to hb⟩
    clear hX hq
    replace V0 := VarAt.to V0 hb
    replace V1 := VarAt.to V1 hb
    replace V2 := VarAt.to V2 hb
    replace HW := Lib.hid (hstep HW hb)
    clear hb
    obtain ⟨g3, hg⟩ : ∃ g, g = w31.heap.size := ⟨_, rfl⟩
    rw [← hg] at V3 ⊢
    clear hg
    have hu : sz 274877906944 u := zu.mono (by omega)
    clear hu
    have hc : u = v ∨ u ≠ v := by by_cases h : u = v; exact .inl h; exact .inr h
    rcases hc with t2 | t2
    · have HE : Hid (decide (u = v) = true) := Lib.hid (by simp [t2])
      have t3 : ((textT u).toList == (textT v).toList) = true := by rw [Bool.eq_iff_iff, beq_iff_eq, text_lists]; simp [t2]
      have t4 : decide ((textT u).toList = (textT v).toList) = true := by rw [Bool.eq_iff_iff, decide_eq_true_eq, text_lists]; simp [t2]
      clear t2
      go_region_held3 (fun w' => w'.cell? ⟨g0, 0, none⟩ = some (.bool (sn (na u))) ∧ w'.cell? ⟨g0, 1, none⟩ = some (.slice X01 (ln (ab (na u))) (ln (ab (na u)))) ∧ w'.cell? ⟨g0, 2, none⟩ = some (.bool (sn (nb u))) ∧ w'.cell? ⟨g0, 3, none⟩ = some (.slice X02 (ln (ab (nb u))) (ln (ab (nb u)))) ∧ w'.cell? ⟨g0, 4, none⟩ = some (.slice X03 (ln (un u)) (ln (un u))) ∧ w'.cell? ⟨g1, 0, none⟩ = some (.bool (sn (na v))) ∧ w'.cell? ⟨g1, 1, none⟩ = some (.slice X11 (ln (ab (na v))) (ln (ab (na v)))) ∧ w'.cell? ⟨g1, 2, none⟩ = some (.bool (sn (nb v))) ∧ w'.cell? ⟨g1, 3, none⟩ = some (.slice X12 (ln (ab (nb v))) (ln (ab (nb v)))) ∧ w'.cell? ⟨g1, 4, none⟩ = some (.slice X13 (ln (un v)) (ln (un v))) ∧ w'.cell? ⟨g2, 0, none⟩ = some (.bool (sn (na u))) ∧ w'.cell? ⟨g2, 1, none⟩ = some (.slice X21 (ln (ab (na u))) (ln (ab (na u)))) ∧ w'.cell? ⟨g2, 2, none⟩ = some (.bool (sn (nb u))) ∧ w'.cell? ⟨g2, 3, none⟩ = some (.slice X22 (ln (ab (nb u))) (ln (ab (nb u)))) ∧ w'.cell? ⟨g2, 4, none⟩ = some (.slice X23 (ln (un u)) (ln (un u))) ∧ w'.cell? ⟨g3, 0, none⟩ = some (.bool (sn (na v))) ∧ w'.cell? ⟨g3, 1, none⟩ = some (.slice X31 (ln (ab (na v))) (ln (ab (na v)))) ∧ w'.cell? ⟨g3, 2, none⟩ = some (.bool (sn (nb v))) ∧ w'.cell? ⟨g3, 3, none⟩ = some (.slice X32 (ln (ab (nb v))) (ln (ab (nb v)))) ∧ w'.cell? ⟨g3, 4, none⟩ = some (.slice X33 (ln (un v)) (ln (un v)))) (first | with_reducible exact ⟨V0.2.1.1, V0.2.1.2.1, V0.2.1.2.2.1, V0.2.1.2.2.2.1, V0.2.1.2.2.2.2, V1.2.1.1, V1.2.1.2.1, V1.2.1.2.2.1, V1.2.1.2.2.2.1, V1.2.1.2.2.2.2, V2.2.1.1, V2.2.1.2.1, V2.2.1.2.2.1, V2.2.1.2.2.2.1, V2.2.1.2.2.2.2, V3.2.1.1, V3.2.1.2.1, V3.2.1.2.2.1, V3.2.1.2.2.2.1, V3.2.1.2.2.2.2⟩ | exact ⟨V0.2.1.1, V0.2.1.2.1, V0.2.1.2.2.1, V0.2.1.2.2.2.1, V0.2.1.2.2.2.2, V1.2.1.1, V1.2.1.2.1, V1.2.1.2.2.1, V1.2.1.2.2.2.1, V1.2.1.2.2.2.2, V2.2.1.1, V2.2.1.2.1, V2.2.1.2.2.1, V2.2.1.2.2.2.1, V2.2.1.2.2.2.2, V3.2.1.1, V3.2.1.2.1, V3.2.1.2.2.1, V3.2.1.2.2.2.1, V3.2.1.2.2.2.2⟩) (first
        | (have _ := mk105; go_at_call 15; refine (HA _).mono ?_; rintro e w106 ⟨rfl, hb106⟩; replace V0 := VarAt.to V0 hb106; replace V1 := VarAt.to V1 hb106; replace V2 := VarAt.to V2 hb106; replace V3 := VarAt.to V3 hb106; replace HW := Lib.hid (hstep HW hb106); clear hb106; have mk106 : True := trivial; clear mk105)
        | (have _ := mk104; go_at_call 18; refine (same_to u v X01 X02 X03 X11 X12 X13 _ (by exact V0.2.2) (by exact V1.2.2) (zu.mono (by decide)) (zv.mono (by decide)) HE.out).mono ?_; rintro e w105 ⟨rfl, hb105⟩; replace V0 := VarAt.to V0 hb105; replace V1 := VarAt.to V1 hb105; replace V2 := VarAt.to V2 hb105; replace V3 := VarAt.to V3 hb105; replace HW := Lib.hid (hstep HW hb105); clear hb105; have mk105 : True := trivial; clear mk104)
        | (have _ := mk103; go_at_call 34; refine (text_any v X11 X12 X13 _ (by exact V1.2.2) (zv.mono (by omega))).mono ?_; rintro e w104 ⟨rfl, hb104⟩; replace V0 := VarAt.to V0 hb104; replace V1 := VarAt.to V1 hb104; replace V2 := VarAt.to V2 hb104; replace V3 := VarAt.to V3 hb104; replace HW := Lib.hid (hstep HW hb104); clear hb104; have mk104 : True := trivial; clear mk103)
        | (have _ := mk102; go_at_call 34; refine (text_any u X01 X02 X03 _ (by exact V0.2.2) (zu.mono (by omega))).mono ?_; rintro e w103 ⟨rfl, hb103⟩; replace V0 := VarAt.to V0 hb103; replace V1 := VarAt.to V1 hb103; replace V2 := VarAt.to V2 hb103; replace V3 := VarAt.to V3 hb103; replace HW := Lib.hid (hstep HW hb103); clear hb103; have mk103 : True := trivial; clear mk102)
        | (have _ := mk101; go_at_call 18; refine (same_to v v X31 X32 X33 X11 X12 X13 _ (by exact V3.2.2) (by exact V1.2.2) (zv.mono (by decide)) (zv.mono (by decide)) (show decide (v = v) = true from decide_eq_true rfl)).mono ?_; rintro e w102 ⟨rfl, hb102⟩; replace V0 := VarAt.to V0 hb102; replace V1 := VarAt.to V1 hb102; replace V2 := VarAt.to V2 hb102; replace V3 := VarAt.to V3 hb102; replace HW := Lib.hid (hstep HW hb102); clear hb102; have mk102 : True := trivial; clear mk101)
        | (go_at_call 18; refine (same_to u u X21 X22 X23 X01 X02 X03 _ (by exact V2.2.2) (by exact V0.2.2) (zu.mono (by decide)) (zu.mono (by decide)) (show decide (u = u) = true from decide_eq_true rfl)).mono ?_; rintro e w101 ⟨rfl, hb101⟩; have hb101 := undrew hb101; replace V0 := VarAt.to V0 hb101; replace V1 := VarAt.to V1 hb101; replace V2 := VarAt.to V2 hb101; replace V3 := VarAt.to V3 hb101; replace HW := Lib.hid (hstep HW hb101); clear hb101; have mk101 : True := trivial))
      go_wp2_with fail
      exact bodyPost_ret (v := .bool true) (by simp [results, Try.results7, go_sem]) rfl ⟨rfl, HW.out⟩
    · have HE : Hid (decide (u = v) = false) := Lib.hid (by simp [t2])
      have t3 : ((textT u).toList == (textT v).toList) = false := by rw [Bool.eq_iff_iff, beq_iff_eq, text_lists]; simp [t2]
      have t4 : decide ((textT u).toList = (textT v).toList) = false := by rw [Bool.eq_iff_iff, decide_eq_true_eq, text_lists]; simp [t2]
      clear t2
      go_region_held3 (fun w' => w'.cell? ⟨g0, 0, none⟩ = some (.bool (sn (na u))) ∧ w'.cell? ⟨g0, 1, none⟩ = some (.slice X01 (ln (ab (na u))) (ln (ab (na u)))) ∧ w'.cell? ⟨g0, 2, none⟩ = some (.bool (sn (nb u))) ∧ w'.cell? ⟨g0, 3, none⟩ = some (.slice X02 (ln (ab (nb u))) (ln (ab (nb u)))) ∧ w'.cell? ⟨g0, 4, none⟩ = some (.slice X03 (ln (un u)) (ln (un u))) ∧ w'.cell? ⟨g1, 0, none⟩ = some (.bool (sn (na v))) ∧ w'.cell? ⟨g1, 1, none⟩ = some (.slice X11 (ln (ab (na v))) (ln (ab (na v)))) ∧ w'.cell? ⟨g1, 2, none⟩ = some (.bool (sn (nb v))) ∧ w'.cell? ⟨g1, 3, none⟩ = some (.slice X12 (ln (ab (nb v))) (ln (ab (nb v)))) ∧ w'.cell? ⟨g1, 4, none⟩ = some (.slice X13 (ln (un v)) (ln (un v))) ∧ w'.cell? ⟨g2, 0, none⟩ = some (.bool (sn (na u))) ∧ w'.cell? ⟨g2, 1, none⟩ = some (.slice X21 (ln (ab (na u))) (ln (ab (na u)))) ∧ w'.cell? ⟨g2, 2, none⟩ = some (.bool (sn (nb u))) ∧ w'.cell? ⟨g2, 3, none⟩ = some (.slice X22 (ln (ab (nb u))) (ln (ab (nb u)))) ∧ w'.cell? ⟨g2, 4, none⟩ = some (.slice X23 (ln (un u)) (ln (un u))) ∧ w'.cell? ⟨g3, 0, none⟩ = some (.bool (sn (na v))) ∧ w'.cell? ⟨g3, 1, none⟩ = some (.slice X31 (ln (ab (na v))) (ln (ab (na v)))) ∧ w'.cell? ⟨g3, 2, none⟩ = some (.bool (sn (nb v))) ∧ w'.cell? ⟨g3, 3, none⟩ = some (.slice X32 (ln (ab (nb v))) (ln (ab (nb v)))) ∧ w'.cell? ⟨g3, 4, none⟩ = some (.slice X33 (ln (un v)) (ln (un v)))) (first | with_reducible exact ⟨V0.2.1.1, V0.2.1.2.1, V0.2.1.2.2.1, V0.2.1.2.2.2.1, V0.2.1.2.2.2.2, V1.2.1.1, V1.2.1.2.1, V1.2.1.2.2.1, V1.2.1.2.2.2.1, V1.2.1.2.2.2.2, V2.2.1.1, V2.2.1.2.1, V2.2.1.2.2.1, V2.2.1.2.2.2.1, V2.2.1.2.2.2.2, V3.2.1.1, V3.2.1.2.1, V3.2.1.2.2.1, V3.2.1.2.2.2.1, V3.2.1.2.2.2.2⟩ | exact ⟨V0.2.1.1, V0.2.1.2.1, V0.2.1.2.2.1, V0.2.1.2.2.2.1, V0.2.1.2.2.2.2, V1.2.1.1, V1.2.1.2.1, V1.2.1.2.2.1, V1.2.1.2.2.2.1, V1.2.1.2.2.2.2, V2.2.1.1, V2.2.1.2.1, V2.2.1.2.2.1, V2.2.1.2.2.2.1, V2.2.1.2.2.2.2, V3.2.1.1, V3.2.1.2.1, V3.2.1.2.2.1, V3.2.1.2.2.2.1, V3.2.1.2.2.2.2⟩) (first
        | (have _ := mk105; go_at_call 15; refine (HA _).mono ?_; rintro e w106 ⟨rfl, hb106⟩; replace V0 := VarAt.to V0 hb106; replace V1 := VarAt.to V1 hb106; replace V2 := VarAt.to V2 hb106; replace V3 := VarAt.to V3 hb106; replace HW := Lib.hid (hstep HW hb106); clear hb106; have mk106 : True := trivial; clear mk105)
        | (have _ := mk104; go_at_call 18; refine (same_to u v X01 X02 X03 X11 X12 X13 _ (by exact V0.2.2) (by exact V1.2.2) (zu.mono (by decide)) (zv.mono (by decide)) HE.out).mono ?_; rintro e w105 ⟨rfl, hb105⟩; replace V0 := VarAt.to V0 hb105; replace V1 := VarAt.to V1 hb105; replace V2 := VarAt.to V2 hb105; replace V3 := VarAt.to V3 hb105; replace HW := Lib.hid (hstep HW hb105); clear hb105; have mk105 : True := trivial; clear mk104)
        | (have _ := mk103; go_at_call 34; refine (text_any v X11 X12 X13 _ (by exact V1.2.2) (zv.mono (by omega))).mono ?_; rintro e w104 ⟨rfl, hb104⟩; replace V0 := VarAt.to V0 hb104; replace V1 := VarAt.to V1 hb104; replace V2 := VarAt.to V2 hb104; replace V3 := VarAt.to V3 hb104; replace HW := Lib.hid (hstep HW hb104); clear hb104; have mk104 : True := trivial; clear mk103)
        | (have _ := mk102; go_at_call 34; refine (text_any u X01 X02 X03 _ (by exact V0.2.2) (zu.mono (by omega))).mono ?_; rintro e w103 ⟨rfl, hb103⟩; replace V0 := VarAt.to V0 hb103; replace V1 := VarAt.to V1 hb103; replace V2 := VarAt.to V2 hb103; replace V3 := VarAt.to V3 hb103; replace HW := Lib.hid (hstep HW hb103); clear hb103; have mk103 : True := trivial; clear mk102)
        | (have _ := mk101; go_at_call 18; refine (same_to v v X31 X32 X33 X11 X12 X13 _ (by exact V3.2.2) (by exact V1.2.2) (zv.mono (by decide)) (zv.mono (by decide)) (show decide (v = v) = true from decide_eq_true rfl)).mono ?_; rintro e w102 ⟨rfl, hb102⟩; replace V0 := VarAt.to V0 hb102; replace V1 := VarAt.to V1 hb102; replace V2 := VarAt.to V2 hb102; replace V3 := VarAt.to V3 hb102; replace HW := Lib.hid (hstep HW hb102); clear hb102; have mk102 : True := trivial; clear mk101)
        | (go_at_call 18; refine (same_to u u X21 X22 X23 X01 X02 X03 _ (by exact V2.2.2) (by exact V0.2.2) (zu.mono (by decide)) (zu.mono (by decide)) (show decide (u = u) = true from decide_eq_true rfl)).mono ?_; rintro e w101 ⟨rfl, hb101⟩; have hb101 := undrew hb101; replace V0 := VarAt.to V0 hb101; replace V1 := VarAt.to V1 hb101; replace V2 := VarAt.to V2 hb101; replace V3 := VarAt.to V3 hb101; replace HW := Lib.hid (hstep HW hb101); clear hb101; have mk101 : True := trivial))
      go_wp2_with fail
      exact bodyPost_ret (v := .bool true) (by simp [results, Try.results7, go_sem]) rfl ⟨rfl, HW.out⟩

end Go.Proofs.Ytapmhidddgicfaa
