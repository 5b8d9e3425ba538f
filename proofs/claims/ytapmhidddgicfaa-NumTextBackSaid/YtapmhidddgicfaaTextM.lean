/- The statement Rows.NumTextBackSaid: for every input the law returns true, and each argument reads behind the call as it read before. No condition. -/
import Derived.Test.YtapmhidddgicfaaRows
import Derived.Test.YtapmhidddgicfaaPH
import Derived.ProofKit
import Derived.OpenShut
import Derived.Lib.SmallJoins
namespace Go.Proofs.Ytapmhidddgicfaa
open Go.ChangeShapes Go.WideShapes Go.ChangeAt Go.RowKit Go.Joins Pl
set_option linter.unusedVariables false

theorem numTextBack_own : ownKnob Try.prog.godebug = none := by kernel_rfl
theorem numTextBack_cells : Try.prog.cellsOf 43 = 3 := by kernel_rfl
section
variable {H : Type} {enc : TypeId × Value → H} {P : Program}
/-- Arguments that hold no place: what is asked behind the call. -/
theorem numTextBack_flat {f : Func} {s : ChangeSpec} {apart fresh handsOn again : Bool} {W W' : World} {args : Array Value} {v : Value} {ds gs : List (DataW H)}
    (hW : DataW.Whole enc P f.params.toList s.vars apart W args.toList ds gs [])
    (hres : ∀ (b : Nat) (sp : Nat → Bool) (hd : Bool), DataW.TrodAll enc P W' b sp hd f.resultTypes.toList (v.resultList f.resultTypes.size) (s.fn H (ds ++ gs)).results [])
    (hargs : ∀ sp : Nat → Bool, DataW.TrodAll enc P W' 0 sp true f.params.toList args.toList (s.fn H (ds ++ gs)).args [])
    (hvars : ∀ sp : Nat → Bool, DataW.TrodVars enc P W' sp s.vars (s.fn H (ds ++ gs)).vars [])
    (hk : ∀ may : MemPlace → Prop, W.keptBut W' may)
    (hok : ∀ (j : Nat) (t : TypeId) (r : Value), f.resultTypes[j]? = some t → (v.resultList f.resultTypes.size)[j]? = some r → Value.okWide P W' .any 0 t r) :
    s.post enc P f apart fresh handsOn again W args v W' :=
  ⟨ds, gs, [], [], [], [], hW, hres _ _ _, hargs _, hvars _, hk _, fun _ => ⟨hok, _, _, [], ⟨[], [], trodAll_append (hargs _) (hres _ _ _), hvars _, rfl, (fun b off hp => by cases hp), (fun _ => List.nodup_nil)⟩, (fun p hp _ => by cases hp)⟩⟩
end

theorem numTextBack_walk_row (a1 a2 a3 b1 b2 b3 c1 c2 c3 : Int) (wa1 : -9223372036854775808 ≤ a1 ∧ a1 ≤ 9223372036854775807) (wa2 : -9223372036854775808 ≤ a2 ∧ a2 ≤ 9223372036854775807) (wa3 : -9223372036854775808 ≤ a3 ∧ a3 ≤ 9223372036854775807) (wb1 : -9223372036854775808 ≤ b1 ∧ b1 ≤ 9223372036854775807) (wb2 : -9223372036854775808 ≤ b2 ∧ b2 ≤ 9223372036854775807) (wb3 : -9223372036854775808 ≤ b3 ∧ b3 ≤ 9223372036854775807) (wc1 : -9223372036854775808 ≤ c1 ∧ c1 ≤ 9223372036854775807) (wc2 : -9223372036854775808 ≤ c2 ∧ c2 ≤ 9223372036854775807) (wc3 : -9223372036854775808 ≤ c3 ∧ c3 ≤ 9223372036854775807) (W : World) :
    Calls Try.prog 7 #[.agg #[.int .i64 a1, .int .i64 a2, .int .i64 a3], .agg #[.int .i64 b1, .int .i64 b2, .int .i64 b3], .agg #[.int .i64 c1, .int .i64 c2, .int .i64 c3]] W fun e w' => e = .returned (.bool true) ∧ Below W.heap.size W w' := by
  exact textback_walk a1 a2 a3 b1 b2 b3 c1 c2 c3 (ofv a1 a2 a3) (ofv b1 b2 b3) (ofv c1 c2 c3) W (sz_of wa1 wa2 wa3) (sz_of wb1 wb2 wb3) (sz_of wc1 wc2 wc3) awake_any (fun w => of_any a1 a2 a3 w wa1 wa2 wa3) (fun w => of_any b1 b2 b3 w wb1 wb2 wb3) (fun w => of_any c1 c2 c3 w wc1 wc2 wc3)

set_option maxRecDepth 100000 in
theorem numTextBack_lifted (os : Os) (started : os.Started) (H : Type) (enc : TypeId × Value → H) :
    ReturnsInHanded {} Try.checked os 7 .any (Rows.numTextBackSpec.pre6 enc Try.prog Try.f7 Rows.numTextBackRow.domain false) (Rows.numTextBackSpec.post enc Try.prog Try.f7 false true false false) := by
  refine returnsInHanded_of_change (C := Try.checked) numTextBack_own started (by kernel_rfl) Try.func7
    (ChangeSpec.witness6 (enc := enc) (C := Try.checked) false ⟨#[], #[.agg #[.int .i64 0, .int .i64 0, .int .i64 0], .agg #[.int .i64 0, .int .i64 0, .int .i64 0], .agg #[.int .i64 0, .int .i64 0, .int .i64 0]], []⟩ 8 (by kernel_rfl) (by kernel_rfl) (by kernel_rfl) (by kernel_rfl)) ?_
  intro W base args ds gs before hval0 hW hcnd _
  have hval : ∀ (j : Nat) t v, Try.f7.params[j]? = some t → args[j]? = some v → Value.okWide Try.prog W .any base t v := hval0
  have hW' := hW
  obtain ⟨p, q, hA0, hV, rfl, hfz, hnd⟩ := hW
  have hA : DataW.TrodAll enc Try.prog W 0 (fun _ => true) true Try.f7.params.toList args.toList ds p := hA0
  rw [Try.params7] at hA hval
  obtain ⟨v0, vs0, d0, ds0, p0, q0, hargs, rfl, rfl, h0, r0⟩ := trodAll_cons hA
  obtain ⟨v1, vs1, d1, ds1, p1, q1, rfl, rfl, rfl, h1, r1⟩ := trodAll_cons r0
  obtain ⟨v2, vs2, d2, ds2, p2, q2, rfl, rfl, rfl, h2, r2⟩ := trodAll_cons r1
  obtain ⟨rfl, rfl, rfl⟩ := trodAll_nil r2
  obtain rfl : args = #[v0, v1, v2] := by cases args; simp_all
  obtain ⟨rfl, rfl⟩ := trodVars_none hV
  obtain ⟨x0, y0, z0, s0, t0, u0, m0, rfl, rfl, rfl, hs0, ht0, hu0⟩ := open_agg3 Try.underlying43 (by kernel_rfl) numTextBack_cells (hval 0 43 v0 rfl rfl) h0
  obtain ⟨a1, ex0, rfl, wa1⟩ := DataW.trod_int Try.underlying2 hs0
  obtain ⟨a2, ey0, rfl, wa2⟩ := DataW.trod_int Try.underlying2 ht0
  obtain ⟨a3, ez0, rfl, wa3⟩ := DataW.trod_int Try.underlying2 hu0
  simp at ex0 ey0 ez0
  subst ex0 ey0 ez0
  obtain ⟨x1, y1, z1, s1, t1, u1, m1, rfl, rfl, rfl, hs1, ht1, hu1⟩ := open_agg3 Try.underlying43 (by kernel_rfl) numTextBack_cells (hval 1 43 v1 rfl rfl) h1
  obtain ⟨b1, ex1, rfl, wb1⟩ := DataW.trod_int Try.underlying2 hs1
  obtain ⟨b2, ey1, rfl, wb2⟩ := DataW.trod_int Try.underlying2 ht1
  obtain ⟨b3, ez1, rfl, wb3⟩ := DataW.trod_int Try.underlying2 hu1
  simp at ex1 ey1 ez1
  subst ex1 ey1 ez1
  obtain ⟨x2, y2, z2, s2, t2, u2, m2, rfl, rfl, rfl, hs2, ht2, hu2⟩ := open_agg3 Try.underlying43 (by kernel_rfl) numTextBack_cells (hval 2 43 v2 rfl rfl) h2
  obtain ⟨c1, ex2, rfl, wc1⟩ := DataW.trod_int Try.underlying2 hs2
  obtain ⟨c2, ey2, rfl, wc2⟩ := DataW.trod_int Try.underlying2 ht2
  obtain ⟨c3, ez2, rfl, wc3⟩ := DataW.trod_int Try.underlying2 hu2
  simp at ex2 ey2 ez2
  subst ex2 ey2 ez2
  clear hA0 hval0
  simp only [List.append_nil] at hW'
  refine (numTextBack_walk_row a1 a2 a3 b1 b2 b3 c1 c2 c3 (bounds_i64 wa1) (bounds_i64 wa2) (bounds_i64 wa3) (bounds_i64 wb1) (bounds_i64 wb2) (bounds_i64 wb3) (bounds_i64 wc1) (bounds_i64 wc2) (bounds_i64 wc3) W).mono fun e W' ⟨he, hg⟩ => ?_
  subst he
  exact ⟨_, rfl, numTextBack_flat hW' (fun _ _ _ => trodAll_cons_mk (shut_bool Try.underlying4 _) trodAll_mk0) (fun sp => trodAll_cons_mk (shut_agg3 (y0 := (.lit (.int .i64 a1), [])) (y1 := (.lit (.int .i64 a2), [])) (y2 := (.lit (.int .i64 a3), [])) Try.underlying43 (by kernel_rfl) numTextBack_cells ⟨1, by simp [DataW.trod, Try.underlying2, wa1]⟩ ⟨1, by simp [DataW.trod, Try.underlying2, wa2]⟩ ⟨1, by simp [DataW.trod, Try.underlying2, wa3]⟩) (trodAll_cons_mk (shut_agg3 (y0 := (.lit (.int .i64 b1), [])) (y1 := (.lit (.int .i64 b2), [])) (y2 := (.lit (.int .i64 b3), [])) Try.underlying43 (by kernel_rfl) numTextBack_cells ⟨1, by simp [DataW.trod, Try.underlying2, wb1]⟩ ⟨1, by simp [DataW.trod, Try.underlying2, wb2]⟩ ⟨1, by simp [DataW.trod, Try.underlying2, wb3]⟩) (trodAll_cons_mk (shut_agg3 (y0 := (.lit (.int .i64 c1), [])) (y1 := (.lit (.int .i64 c2), [])) (y2 := (.lit (.int .i64 c3), [])) Try.underlying43 (by kernel_rfl) numTextBack_cells ⟨1, by simp [DataW.trod, Try.underlying2, wc1]⟩ ⟨1, by simp [DataW.trod, Try.underlying2, wc2]⟩ ⟨1, by simp [DataW.trod, Try.underlying2, wc3]⟩) trodAll_mk0))) (fun _ => rfl) (fun may => hg.frame may) (ok_one (by kernel_rfl) rfl (okWide_bool_mk Try.underlying4 _))⟩

theorem numTextBack_over : Rows.numTextBackRow.holds Try.pinned (OpenSpec.ofChange Rows.numTextBackSpec) :=
  OpenClaim.holds_of_wide 7 Try.f7 rfl rfl rfl rfl rfl rfl rfl ⟨rfl, rfl, rfl, rfl, rfl⟩ rfl rfl rfl rfl rfl (by kernel_rfl) Try.func7 (by kernel_rfl)
    (of_decide_eq_true (by kernel_rfl)) (by unfold Func.isWrapper; first | (rw [if_pos (by decide +kernel)]; kernel_rfl) | (rw [if_neg (by decide +kernel)]; exact ⟨rfl, rfl⟩))
    (fun os started H enc _ => numTextBack_lifted os started H enc)

/-- THE STATEMENT. -/
theorem numTextBack_holds : Rows.NumTextBackSaid := numTextBack_over
#print axioms numTextBack_holds
end Go.Proofs.Ytapmhidddgicfaa
