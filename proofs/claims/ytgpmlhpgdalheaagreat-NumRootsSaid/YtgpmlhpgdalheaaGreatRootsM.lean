/- The statement Rows.NumRootsSaid: for every input the law returns true, and each argument reads behind the call as it read before. No condition. -/
import Derived.Test.YtgpmlhpgdalheaaGreatRows
import Derived.Test.YtgpmlhpgdalheaaGreatKD
import Derived.ProofKit
import Derived.OpenShut
import Derived.Lib.SmallJoins
namespace Go.Proofs.YtgpmlhpgdalheaaGreat
open Go.ChangeShapes Go.WideShapes Go.ChangeAt Go.RowKit Go.Joins Pl
set_option linter.unusedVariables false

theorem numRoots_own : ownKnob Tryz.prog.godebug = none := by kernel_rfl
theorem numRoots_cells : Tryz.prog.cellsOf 23 = 3 := by kernel_rfl
section
variable {H : Type} {enc : TypeId × Value → H} {P : Program}
/-- Arguments that hold no place: what is asked behind the call. -/
theorem numRoots_flat {f : Func} {s : ChangeSpec} {apart fresh handsOn again : Bool} {W W' : World} {args : Array Value} {v : Value} {ds gs : List (DataW H)}
    (hW : DataW.Whole enc P f.params.toList s.vars apart W args.toList ds gs [])
    (hres : ∀ (b : Nat) (sp : Nat → Bool) (hd : Bool), DataW.TrodAll enc P W' b sp hd f.resultTypes.toList (v.resultList f.resultTypes.size) (s.fn H (ds ++ gs)).results [])
    (hargs : ∀ sp : Nat → Bool, DataW.TrodAll enc P W' 0 sp true f.params.toList args.toList (s.fn H (ds ++ gs)).args [])
    (hvars : ∀ sp : Nat → Bool, DataW.TrodVars enc P W' sp s.vars (s.fn H (ds ++ gs)).vars [])
    (hk : ∀ may : MemPlace → Prop, W.keptBut W' may)
    (hok : ∀ (j : Nat) (t : TypeId) (r : Value), f.resultTypes[j]? = some t → (v.resultList f.resultTypes.size)[j]? = some r → Value.okWide P W' .any 0 t r) :
    s.post enc P f apart fresh handsOn again W args v W' :=
  ⟨ds, gs, [], [], [], [], hW, hres _ _ _, hargs _, hvars _, hk _, fun _ => ⟨hok, _, _, [], ⟨[], [], trodAll_append (hargs _) (hres _ _ _), hvars _, rfl, (fun b off hp => by cases hp), (fun _ => List.nodup_nil)⟩, (fun p hp _ => by cases hp)⟩⟩
end

theorem numRoots_walk_row (a1 a2 a3 b1 b2 b3 : Int) (wa1 : -9223372036854775808 ≤ a1 ∧ a1 ≤ 9223372036854775807) (wa2 : -9223372036854775808 ≤ a2 ∧ a2 ≤ 9223372036854775807) (wa3 : -9223372036854775808 ≤ a3 ∧ a3 ≤ 9223372036854775807) (wb1 : -9223372036854775808 ≤ b1 ∧ b1 ≤ 9223372036854775807) (wb2 : -9223372036854775808 ≤ b2 ∧ b2 ≤ 9223372036854775807) (wb3 : -9223372036854775808 ≤ b3 ∧ b3 ≤ 9223372036854775807) (W : World) :
    Calls Tryz.prog 9 #[.agg #[.int .i64 a1, .int .i64 a2, .int .i64 a3], .agg #[.int .i64 b1, .int .i64 b2, .int .i64 b3]] W fun e w' => e = .returned (.bool true) ∧ Below W.heap.size W w' := by
  exact numRoots_walk a1 a2 a3 b1 b2 b3 W wa1 wa2 wa3 wb1 wb2 wb3

set_option maxRecDepth 100000 in
theorem numRoots_lifted (os : Os) (started : os.Started) (H : Type) (enc : TypeId × Value → H) :
    ReturnsInHanded {} Tryz.checked os 9 .any (Rows.numRootsSpec.pre6 enc Tryz.prog Tryz.f9 Rows.numRootsRow.domain false) (Rows.numRootsSpec.post enc Tryz.prog Tryz.f9 false true false false) := by
  refine returnsInHanded_of_change (C := Tryz.checked) numRoots_own started (by kernel_rfl) Tryz.func9
    (ChangeSpec.witness6 (enc := enc) (C := Tryz.checked) false ⟨#[], #[.agg #[.int .i64 0, .int .i64 0, .int .i64 0], .agg #[.int .i64 0, .int .i64 0, .int .i64 0]], []⟩ 8 (by kernel_rfl) (by kernel_rfl) (by kernel_rfl) (by kernel_rfl)) ?_
  intro W base args ds gs before hval0 hW hcnd _
  have hval : ∀ (j : Nat) t v, Tryz.f9.params[j]? = some t → args[j]? = some v → Value.okWide Tryz.prog W .any base t v := hval0
  have hW' := hW
  obtain ⟨p, q, hA0, hV, rfl, hfz, hnd⟩ := hW
  have hA : DataW.TrodAll enc Tryz.prog W 0 (fun _ => true) true Tryz.f9.params.toList args.toList ds p := hA0
  rw [Tryz.params9] at hA hval
  obtain ⟨v0, vs0, d0, ds0, p0, q0, hargs, rfl, rfl, h0, r0⟩ := trodAll_cons hA
  obtain ⟨v1, vs1, d1, ds1, p1, q1, rfl, rfl, rfl, h1, r1⟩ := trodAll_cons r0
  obtain ⟨rfl, rfl, rfl⟩ := trodAll_nil r1
  obtain rfl : args = #[v0, v1] := by cases args; simp_all
  obtain ⟨rfl, rfl⟩ := trodVars_none hV
  obtain ⟨x0, y0, z0, s0, t0, u0, m0, rfl, rfl, rfl, hs0, ht0, hu0⟩ := open_agg3 Tryz.underlying23 (by kernel_rfl) numRoots_cells (hval 0 23 v0 rfl rfl) h0
  obtain ⟨a1, ex0, rfl, wa1⟩ := DataW.trod_int Tryz.underlying2 hs0
  obtain ⟨a2, ey0, rfl, wa2⟩ := DataW.trod_int Tryz.underlying2 ht0
  obtain ⟨a3, ez0, rfl, wa3⟩ := DataW.trod_int Tryz.underlying2 hu0
  simp at ex0 ey0 ez0
  subst ex0 ey0 ez0
  obtain ⟨x1, y1, z1, s1, t1, u1, m1, rfl, rfl, rfl, hs1, ht1, hu1⟩ := open_agg3 Tryz.underlying23 (by kernel_rfl) numRoots_cells (hval 1 23 v1 rfl rfl) h1
  obtain ⟨b1, ex1, rfl, wb1⟩ := DataW.trod_int Tryz.underlying2 hs1
  obtain ⟨b2, ey1, rfl, wb2⟩ := DataW.trod_int Tryz.underlying2 ht1
  obtain ⟨b3, ez1, rfl, wb3⟩ := DataW.trod_int Tryz.underlying2 hu1
  simp at ex1 ey1 ez1
  subst ex1 ey1 ez1
  clear hA0 hval0
  simp only [List.append_nil] at hW'
  refine (numRoots_walk_row a1 a2 a3 b1 b2 b3 (bounds_i64 wa1) (bounds_i64 wa2) (bounds_i64 wa3) (bounds_i64 wb1) (bounds_i64 wb2) (bounds_i64 wb3) W).mono fun e W' ⟨he, hg⟩ => ?_
  subst he
  exact ⟨_, rfl, numRoots_flat hW' (fun _ _ _ => trodAll_cons_mk (shut_bool Tryz.underlying4 _) trodAll_mk0) (fun sp => trodAll_cons_mk (shut_agg3 (y0 := (.lit (.int .i64 a1), [])) (y1 := (.lit (.int .i64 a2), [])) (y2 := (.lit (.int .i64 a3), [])) Tryz.underlying23 (by kernel_rfl) numRoots_cells ⟨1, by simp [DataW.trod, Tryz.underlying2, wa1]⟩ ⟨1, by simp [DataW.trod, Tryz.underlying2, wa2]⟩ ⟨1, by simp [DataW.trod, Tryz.underlying2, wa3]⟩) (trodAll_cons_mk (shut_agg3 (y0 := (.lit (.int .i64 b1), [])) (y1 := (.lit (.int .i64 b2), [])) (y2 := (.lit (.int .i64 b3), [])) Tryz.underlying23 (by kernel_rfl) numRoots_cells ⟨1, by simp [DataW.trod, Tryz.underlying2, wb1]⟩ ⟨1, by simp [DataW.trod, Tryz.underlying2, wb2]⟩ ⟨1, by simp [DataW.trod, Tryz.underlying2, wb3]⟩) trodAll_mk0)) (fun _ => rfl) (fun may => hg.frame may) (ok_one (by kernel_rfl) rfl (okWide_bool_mk Tryz.underlying4 _))⟩

theorem numRoots_over : Rows.numRootsRow.holds Tryz.pinned (OpenSpec.ofChange Rows.numRootsSpec) :=
  OpenClaim.holds_of_wide 9 Tryz.f9 rfl rfl rfl rfl rfl rfl rfl ⟨rfl, rfl, rfl, rfl, rfl⟩ rfl rfl rfl rfl rfl (by kernel_rfl) Tryz.func9 (by kernel_rfl)
    (of_decide_eq_true (by kernel_rfl)) (by unfold Func.isWrapper; first | (rw [if_pos (by decide +kernel)]; kernel_rfl) | (rw [if_neg (by decide +kernel)]; exact ⟨rfl, rfl⟩))
    (fun os started H enc _ => numRoots_lifted os started H enc)

/-- THE STATEMENT. -/
theorem numRoots_holds : Rows.NumRootsSaid := numRoots_over
#print axioms numRoots_holds
end Go.Proofs.YtgpmlhpgdalheaaGreat
