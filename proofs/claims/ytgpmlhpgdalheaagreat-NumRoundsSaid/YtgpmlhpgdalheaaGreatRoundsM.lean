/- NumRounds: the walk. The statement Rows.NumRoundsSaid: for every input the law returns true, and each argument reads behind the call as it read before. No condition. -/
import Derived.Test.YtgpmlhpgdalheaaGreatGC
import Derived.Test.YtgpmlhpgdalheaaGreatSc
import Derived.Test.YtgpmlhpgdalheaaGreatLawB
import Derived.Test.YtgpmlhpgdalheaaGreatAwakeF
import Derived.Test.YtgpmlhpgdalheaaGreatRows
import Derived.ProofKit
import Derived.OpenShut
import Derived.Lib.SmallJoins
namespace Go.Proofs.YtgpmlhpgdalheaaGreat
open Go.RowKit Pl Fl
set_option linter.unusedVariables false
set_option linter.unusedSimpArgs false

set_option maxRecDepth 100000 in
set_option maxHeartbeats 4000000 in
theorem numRounds_walk (a b d s : Int) (w : World) (ha : -9223372036854775808 ≤ a ∧ a ≤ 9223372036854775807) (hb : -9223372036854775808 ≤ b ∧ b ≤ 9223372036854775807) (hd : -9223372036854775808 ≤ d ∧ d ≤ 9223372036854775807) (h1 : -32768 ≤ s) (h2 : s ≤ 32767) :
    Calls Tryz.prog 3 #[.agg #[.int .i64 a, .int .i64 b, .int .i64 d], .int .i16 s] w (RetBool w true) := by
  have HS := Lib.hid (fun w => scaled_two a b d s w ha hb hd h1 h2)
  clear ha hb hd h1 h2
  go_enter Tryz.func3, Tryz.ntmps3
  go_wp2_with fail
  obtain ⟨W, hW⟩ : ∃ W : World, W = (w.alloc (.cells #[.int .i64 a, .int .i64 b, .int .i64 d] 23)) := ⟨_, rfl⟩
  have s0_0 : W.cell? ⟨w.heap.size, 0, none⟩ = some (.int .i64 a) := by subst hW; go_simp
  have s0_1 : W.cell? ⟨w.heap.size, 1, none⟩ = some (.int .i64 b) := by subst hW; go_simp
  have s0_2 : W.cell? ⟨w.heap.size, 2, none⟩ = some (.int .i64 d) := by subst hW; go_simp
  have HW : Below w.heap.size w W := by subst hW; exact ((Below.refl w.heap.size w).alloc (Nat.le_refl _) _)
  have l0 : w.heap.size < W.heap.size := by subst hW; simp
  rw [← hW]
  clear hW
  replace HW := Lib.hid HW
  refine (HS.out _).mono ?_
  rintro e w1 ⟨q, X01, X02, X03, Y1, Y2, Y3, c1, c2, c3, zq, rfl, hx, hy, hb⟩
  clear s0_0 s0_1 s0_2 HS
  replace HW := Lib.hid (hstep HW hb)
  clear hb l0
  go_upto_region 2 with fail
  obtain ⟨X, hX⟩ : ∃ X : World, X = (w1.alloc (.cells #[.bool (sn (na q)), .slice X01 (ln (ab (na q))) (ln (ab (na q))), .bool (sn (nb q)), .slice X02 (ln (ab (nb q))) (ln (ab (nb q))), .slice X03 (ln (un q)) (ln (un q))] 30)).alloc (.cells #[.bool (sn (na q)), .slice Y1 (ln (ab (na q))) c1, .bool (sn (nb q)), .slice Y2 (ln (ab (nb q))) c2, .slice Y3 (ln (nd q)) c3] 34) := ⟨_, rfl⟩
  rw [← hX]
  have hb : Below w1.heap.size w1 X := by rw [hX]; exact ((Below.refl _ _).alloc (Nat.le_refl _) _).alloc (by simp) _
  have V0 : VarAt X w1.heap.size q X01 X02 X03 := ⟨by rw [hX]; simp <;> omega, ⟨by subst hX; go_simp, by subst hX; go_simp, by subst hX; go_simp, by subst hX; go_simp, by subst hX; go_simp⟩, hx.to hb⟩
  have VR : HasR X (w1.heap.size + 1) q := by subst hX; exact ⟨by simp, ⟨Y1, Y2, Y3, c1, c2, c3, ⟨by go_simp, by go_simp, by go_simp, by go_simp, by go_simp⟩, (hy.1.alloc _).alloc _, (hy.2.1.alloc _).alloc _, (hy.2.2.alloc _).alloc _⟩, by go_simp, by go_simp, by go_simp, by go_simp, by go_simp⟩
  clear hX hx hy
  replace HW := Lib.hid (hstep HW hb)
  clear hb
  generalize w1.heap.size = x0 at *
  obtain ⟨lR, ⟨Y1, Y2, Y3, c1, c2, c3, ⟨e0, e1, e2, e3, e4⟩, nR⟩, _⟩ := VR
  replace zq : sz 100000 q := zq.mono (by omega)
  go_region_held3 (fun w' => w'.cell? ⟨x0, 0, none⟩ = some (.bool (sn (na q))) ∧ w'.cell? ⟨x0, 1, none⟩ = some (.slice X01 (ln (ab (na q))) (ln (ab (na q)))) ∧ w'.cell? ⟨x0, 2, none⟩ = some (.bool (sn (nb q))) ∧ w'.cell? ⟨x0, 3, none⟩ = some (.slice X02 (ln (ab (nb q))) (ln (ab (nb q)))) ∧ w'.cell? ⟨x0, 4, none⟩ = some (.slice X03 (ln (un q)) (ln (un q))) ∧ w'.cell? ⟨x0 + 1, 0, none⟩ = some (.bool (sn (na q))) ∧ w'.cell? ⟨x0 + 1, 1, none⟩ = some (.slice Y1 (ln (ab (na q))) c1) ∧ w'.cell? ⟨x0 + 1, 2, none⟩ = some (.bool (sn (nb q))) ∧ w'.cell? ⟨x0 + 1, 3, none⟩ = some (.slice Y2 (ln (ab (nb q))) c2) ∧ w'.cell? ⟨x0 + 1, 4, none⟩ = some (.slice Y3 (ln (nd q)) c3)) (first | with_reducible exact ⟨V0.2.1.1, V0.2.1.2.1, V0.2.1.2.2.1, V0.2.1.2.2.2.1, V0.2.1.2.2.2.2, e0, e1, e2, e3, e4⟩ | with_reducible exact ⟨keepd V0.2.1.1, keepd V0.2.1.2.1, keepd V0.2.1.2.2.1, keepd V0.2.1.2.2.2.1, keepd V0.2.1.2.2.2.2, keepd e0, keepd e1, keepd e2, keepd e3, keepd e4⟩ | exact ⟨V0.2.1.1, V0.2.1.2.1, V0.2.1.2.2.1, V0.2.1.2.2.2.1, V0.2.1.2.2.2.2, e0, e1, e2, e3, e4⟩) (first
    | (have _ := mk101; go_at_call 14; refine (rnear_any q Y1 Y2 Y3 c1 c2 c3 _ (by exact nR) zq).mono ?_; rintro e w102 ⟨rfl, hb⟩; replace V0 := VarAt.to V0 hb; replace e0 := keepc hb e0 lR; replace e1 := keepc hb e1 lR; replace e2 := keepc hb e2 lR; replace e3 := keepc hb e3 lR; replace e4 := keepc hb e4 lR; replace nR := nR.to hb; replace lR := Nat.lt_of_lt_of_le lR hb.size; replace HW := Lib.hid (hstep HW hb); clear hb; have mk102 : True := trivial; clear mk101)
    | (go_at_call 13; refine (near_any q X01 X02 X03 _ (by exact V0.2.2) zq).mono ?_; rintro e w101 ⟨rfl, hb⟩; have hb := undrew hb; replace V0 := VarAt.to V0 hb; replace e0 := keepc hb e0 lR; replace e1 := keepc hb e1 lR; replace e2 := keepc hb e2 lR; replace e3 := keepc hb e3 lR; replace e4 := keepc hb e4 lR; replace nR := nR.to hb; replace lR := Nat.lt_of_lt_of_le lR hb.size; replace HW := Lib.hid (hstep HW hb); clear hb; have mk101 : True := trivial))
  go_upto_region 3 with fail
  go_region_held3 (fun w' => w'.cell? ⟨x0, 0, none⟩ = some (.bool (sn (na q))) ∧ w'.cell? ⟨x0, 1, none⟩ = some (.slice X01 (ln (ab (na q))) (ln (ab (na q)))) ∧ w'.cell? ⟨x0, 2, none⟩ = some (.bool (sn (nb q))) ∧ w'.cell? ⟨x0, 3, none⟩ = some (.slice X02 (ln (ab (nb q))) (ln (ab (nb q)))) ∧ w'.cell? ⟨x0, 4, none⟩ = some (.slice X03 (ln (un q)) (ln (un q))) ∧ w'.cell? ⟨x0 + 1, 0, none⟩ = some (.bool (sn (na q))) ∧ w'.cell? ⟨x0 + 1, 1, none⟩ = some (.slice Y1 (ln (ab (na q))) c1) ∧ w'.cell? ⟨x0 + 1, 2, none⟩ = some (.bool (sn (nb q))) ∧ w'.cell? ⟨x0 + 1, 3, none⟩ = some (.slice Y2 (ln (ab (nb q))) c2) ∧ w'.cell? ⟨x0 + 1, 4, none⟩ = some (.slice Y3 (ln (nd q)) c3)) (first | with_reducible exact ⟨V0.2.1.1, V0.2.1.2.1, V0.2.1.2.2.1, V0.2.1.2.2.2.1, V0.2.1.2.2.2.2, e0, e1, e2, e3, e4⟩ | with_reducible exact ⟨keepd V0.2.1.1, keepd V0.2.1.2.1, keepd V0.2.1.2.2.1, keepd V0.2.1.2.2.2.1, keepd V0.2.1.2.2.2.2, keepd e0, keepd e1, keepd e2, keepd e3, keepd e4⟩ | exact ⟨V0.2.1.1, V0.2.1.2.1, V0.2.1.2.2.1, V0.2.1.2.2.2.1, V0.2.1.2.2.2.2, e0, e1, e2, e3, e4⟩) (first
    | (have _ := mk103; go_at_call 16; refine (rnear64_any q Y1 Y2 Y3 c1 c2 c3 _ (by exact nR) zq).mono ?_; rintro e w104 ⟨rfl, hb⟩; replace V0 := VarAt.to V0 hb; replace e0 := keepc hb e0 lR; replace e1 := keepc hb e1 lR; replace e2 := keepc hb e2 lR; replace e3 := keepc hb e3 lR; replace e4 := keepc hb e4 lR; replace nR := nR.to hb; replace lR := Nat.lt_of_lt_of_le lR hb.size; replace HW := Lib.hid (hstep HW hb); clear hb; have mk104 : True := trivial; clear mk103)
    | (go_at_call 15; refine (near64_any q X01 X02 X03 _ (by exact V0.2.2) zq).mono ?_; rintro e w103 ⟨rfl, hb⟩; have hb := undrew hb; replace V0 := VarAt.to V0 hb; replace e0 := keepc hb e0 lR; replace e1 := keepc hb e1 lR; replace e2 := keepc hb e2 lR; replace e3 := keepc hb e3 lR; replace e4 := keepc hb e4 lR; replace nR := nR.to hb; replace lR := Nat.lt_of_lt_of_le lR hb.size; replace HW := Lib.hid (hstep HW hb); clear hb; have mk103 : True := trivial))
  go_upto_region 4 with fail
  have g32 := f32bits
  obtain ⟨n1, hn1⟩ : ∃ n, n = srnd 53 (-1074) 1024 (na q) (nd q) 2 := ⟨_, rfl⟩
  obtain ⟨n2, hn2⟩ : ∃ n, n = srnd 53 (-1074) 1024 (nb q) (nd q) 2 := ⟨_, rfl⟩
  obtain ⟨n3, hn3⟩ : ∃ n, n = to32 (srnd 24 (-149) 128 (na q) (nd q) 2) := ⟨_, rfl⟩
  obtain ⟨n4, hn4⟩ : ∃ n, n = to32 (srnd 24 (-149) 128 (nb q) (nd q) 2) := ⟨_, rfl⟩
  rw [← hn1, ← hn2, ← hn3, ← hn4]
  clear hn1 hn2 hn3 hn4
  have q3 : ((n3 : Int) != (n3 : Int)) = false := by simp
  have q4 : ((n4 : Int) != (n4 : Int)) = false := by simp
  go_wp2_with fail
  refine (samef_any n1 _).mono ?_
  rintro e w2 ⟨rfl, rfl⟩
  go_wp2_with fail
  refine (samef_any n2 _).mono ?_
  rintro e w2 ⟨rfl, rfl⟩
  go_wp2_with fail
  have HA := awake_any
  go_region_held3 (fun w' => w'.cell? ⟨x0, 0, none⟩ = some (.bool (sn (na q))) ∧ w'.cell? ⟨x0, 1, none⟩ = some (.slice X01 (ln (ab (na q))) (ln (ab (na q)))) ∧ w'.cell? ⟨x0, 2, none⟩ = some (.bool (sn (nb q))) ∧ w'.cell? ⟨x0, 3, none⟩ = some (.slice X02 (ln (ab (nb q))) (ln (ab (nb q)))) ∧ w'.cell? ⟨x0, 4, none⟩ = some (.slice X03 (ln (un q)) (ln (un q))) ∧ w'.cell? ⟨x0 + 1, 0, none⟩ = some (.bool (sn (na q))) ∧ w'.cell? ⟨x0 + 1, 1, none⟩ = some (.slice Y1 (ln (ab (na q))) c1) ∧ w'.cell? ⟨x0 + 1, 2, none⟩ = some (.bool (sn (nb q))) ∧ w'.cell? ⟨x0 + 1, 3, none⟩ = some (.slice Y2 (ln (ab (nb q))) c2) ∧ w'.cell? ⟨x0 + 1, 4, none⟩ = some (.slice Y3 (ln (nd q)) c3)) (first | with_reducible exact ⟨V0.2.1.1, V0.2.1.2.1, V0.2.1.2.2.1, V0.2.1.2.2.2.1, V0.2.1.2.2.2.2, e0, e1, e2, e3, e4⟩ | with_reducible exact ⟨keepd V0.2.1.1, keepd V0.2.1.2.1, keepd V0.2.1.2.2.1, keepd V0.2.1.2.2.2.1, keepd V0.2.1.2.2.2.2, keepd e0, keepd e1, keepd e2, keepd e3, keepd e4⟩ | exact ⟨V0.2.1.1, V0.2.1.2.1, V0.2.1.2.2.1, V0.2.1.2.2.2.1, V0.2.1.2.2.2.2, e0, e1, e2, e3, e4⟩) (first
    | (have _ := mk110; go_at_call 23; refine (HA _).mono ?_; rintro e w111 ⟨rfl, hb⟩; replace V0 := VarAt.to V0 hb; replace e0 := keepc hb e0 lR; replace e1 := keepc hb e1 lR; replace e2 := keepc hb e2 lR; replace e3 := keepc hb e3 lR; replace e4 := keepc hb e4 lR; replace nR := nR.to hb; replace lR := Nat.lt_of_lt_of_le lR hb.size; replace HW := Lib.hid (hstep HW hb); clear hb; have mk111 : True := trivial; clear mk110)
    | (have _ := mk109; go_at_call 17; refine (samef_any _ _).mono ?_; rintro e w110 ⟨rfl, rfl⟩; have mk110 : True := trivial; clear mk109)
    | (have _ := mk108; go_at_call 22; refine (rabove_any q Y1 Y2 Y3 c1 c2 c3 _ (by exact nR) zq).mono ?_; rintro e w109 ⟨rfl, hb⟩; replace V0 := VarAt.to V0 hb; replace e0 := keepc hb e0 lR; replace e1 := keepc hb e1 lR; replace e2 := keepc hb e2 lR; replace e3 := keepc hb e3 lR; replace e4 := keepc hb e4 lR; replace nR := nR.to hb; replace lR := Nat.lt_of_lt_of_le lR hb.size; replace HW := Lib.hid (hstep HW hb); clear hb; have mk109 : True := trivial; clear mk108)
    | (have _ := mk107; go_at_call 21; refine (above_any q X01 X02 X03 _ (by exact V0.2.2) zq).mono ?_; rintro e w108 ⟨rfl, hb⟩; replace V0 := VarAt.to V0 hb; replace e0 := keepc hb e0 lR; replace e1 := keepc hb e1 lR; replace e2 := keepc hb e2 lR; replace e3 := keepc hb e3 lR; replace e4 := keepc hb e4 lR; replace nR := nR.to hb; replace lR := Nat.lt_of_lt_of_le lR hb.size; replace HW := Lib.hid (hstep HW hb); clear hb; have mk108 : True := trivial; clear mk107)
    | (have _ := mk106; go_at_call 17; refine (samef_any _ _).mono ?_; rintro e w107 ⟨rfl, rfl⟩; have mk107 : True := trivial; clear mk106)
    | (have _ := mk105; go_at_call 20; refine (rbelow_any q Y1 Y2 Y3 c1 c2 c3 _ (by exact nR) zq).mono ?_; rintro e w106 ⟨rfl, hb⟩; replace V0 := VarAt.to V0 hb; replace e0 := keepc hb e0 lR; replace e1 := keepc hb e1 lR; replace e2 := keepc hb e2 lR; replace e3 := keepc hb e3 lR; replace e4 := keepc hb e4 lR; replace nR := nR.to hb; replace lR := Nat.lt_of_lt_of_le lR hb.size; replace HW := Lib.hid (hstep HW hb); clear hb; have mk106 : True := trivial; clear mk105)
    | (go_at_call 19; refine (below_any q X01 X02 X03 _ (by exact V0.2.2) zq).mono ?_; rintro e w105 ⟨rfl, hb⟩; have hb := undrew hb; replace V0 := VarAt.to V0 hb; replace e0 := keepc hb e0 lR; replace e1 := keepc hb e1 lR; replace e2 := keepc hb e2 lR; replace e3 := keepc hb e3 lR; replace e4 := keepc hb e4 lR; replace nR := nR.to hb; replace lR := Nat.lt_of_lt_of_le lR hb.size; replace HW := Lib.hid (hstep HW hb); clear hb; have mk105 : True := trivial))
  go_wp2_with fail
  exact bodyPost_ret (v := .bool true) (by simp [results, Tryz.results3, go_sem]) rfl ⟨rfl, HW.out⟩


end Go.Proofs.YtgpmlhpgdalheaaGreat

namespace Go.Proofs.YtgpmlhpgdalheaaGreat
open Go.ChangeShapes Go.WideShapes Go.ChangeAt Go.RowKit Go.Joins Pl
set_option linter.unusedVariables false

theorem numRounds_own : ownKnob Tryz.prog.godebug = none := by kernel_rfl
theorem numRounds_cells : Tryz.prog.cellsOf 23 = 3 := by kernel_rfl
section
variable {H : Type} {enc : TypeId × Value → H} {P : Program}
/-- Arguments that hold no place: what is asked behind the call. -/
theorem numRounds_flat {f : Func} {s : ChangeSpec} {apart fresh handsOn again : Bool} {W W' : World} {args : Array Value} {v : Value} {ds gs : List (DataW H)}
    (hW : DataW.Whole enc P f.params.toList s.vars apart W args.toList ds gs [])
    (hres : ∀ (b : Nat) (sp : Nat → Bool) (hd : Bool), DataW.TrodAll enc P W' b sp hd f.resultTypes.toList (v.resultList f.resultTypes.size) (s.fn H (ds ++ gs)).results [])
    (hargs : ∀ sp : Nat → Bool, DataW.TrodAll enc P W' 0 sp true f.params.toList args.toList (s.fn H (ds ++ gs)).args [])
    (hvars : ∀ sp : Nat → Bool, DataW.TrodVars enc P W' sp s.vars (s.fn H (ds ++ gs)).vars [])
    (hk : ∀ may : MemPlace → Prop, W.keptBut W' may)
    (hok : ∀ (j : Nat) (t : TypeId) (r : Value), f.resultTypes[j]? = some t → (v.resultList f.resultTypes.size)[j]? = some r → Value.okWide P W' .any 0 t r) :
    s.post enc P f apart fresh handsOn again W args v W' :=
  ⟨ds, gs, [], [], [], [], hW, hres _ _ _, hargs _, hvars _, hk _, fun _ => ⟨hok, _, _, [], ⟨[], [], trodAll_append (hargs _) (hres _ _ _), hvars _, rfl, (fun b off hp => by cases hp), (fun _ => List.nodup_nil)⟩, (fun p hp _ => by cases hp)⟩⟩
end

theorem numRounds_bounds16 {n : Int} (h : (Lit.int .i16 n).wf = true) : -32768 ≤ n ∧ n ≤ 32767 := by
  simp [Lit.wf, IntKind.min, IntKind.max, IntKind.signed, IntKind.bits] at h
  omega
theorem numRounds_walk_row (a1 a2 a3 s : Int) (wa1 : -9223372036854775808 ≤ a1 ∧ a1 ≤ 9223372036854775807) (wa2 : -9223372036854775808 ≤ a2 ∧ a2 ≤ 9223372036854775807) (wa3 : -9223372036854775808 ≤ a3 ∧ a3 ≤ 9223372036854775807) (ws : -32768 ≤ s ∧ s ≤ 32767) (W : World) :
    Calls Tryz.prog 3 #[.agg #[.int .i64 a1, .int .i64 a2, .int .i64 a3], .int .i16 s] W fun e w' => e = .returned (.bool true) ∧ Below W.heap.size W w' := by
  exact numRounds_walk a1 a2 a3 s W wa1 wa2 wa3 ws.1 ws.2

set_option maxRecDepth 100000 in
theorem numRounds_lifted (os : Os) (started : os.Started) (H : Type) (enc : TypeId × Value → H) :
    ReturnsInHanded {} Tryz.checked os 3 .any (Rows.numRoundsSpec.pre6 enc Tryz.prog Tryz.f3 Rows.numRoundsRow.domain false) (Rows.numRoundsSpec.post enc Tryz.prog Tryz.f3 false true false false) := by
  refine returnsInHanded_of_change (C := Tryz.checked) numRounds_own started (by kernel_rfl) Tryz.func3
    (ChangeSpec.witness6 (enc := enc) (C := Tryz.checked) false ⟨#[], #[.agg #[.int .i64 0, .int .i64 0, .int .i64 0], .int .i16 0], []⟩ 8 (by kernel_rfl) (by kernel_rfl) (by kernel_rfl) (by kernel_rfl)) ?_
  intro W base args ds gs before hval0 hW hcnd _
  have hval : ∀ (j : Nat) t v, Tryz.f3.params[j]? = some t → args[j]? = some v → Value.okWide Tryz.prog W .any base t v := hval0
  have hW' := hW
  obtain ⟨p, q, hA0, hV, rfl, hfz, hnd⟩ := hW
  have hA : DataW.TrodAll enc Tryz.prog W 0 (fun _ => true) true Tryz.f3.params.toList args.toList ds p := hA0
  rw [Tryz.params3] at hA hval
  obtain ⟨v0, vs0, d0, ds0, p0, q0, hargs, rfl, rfl, h0, r0⟩ := trodAll_cons hA
  obtain ⟨v1, vs1, d1, ds1, p1, q1, rfl, rfl, rfl, h1, r1⟩ := trodAll_cons r0
  obtain ⟨rfl, rfl, rfl⟩ := trodAll_nil r1
  obtain rfl : args = #[v0, v1] := by cases args; simp_all
  obtain ⟨rfl, rfl⟩ := trodVars_none hV
  obtain ⟨x0, y0, z0, s0, t0, u0, m0, rfl, rfl, rfl, hs0, ht0, hu0⟩ := open_agg3 Tryz.underlying23 (by kernel_rfl) numRounds_cells (hval 0 23 v0 rfl rfl) h0
  obtain ⟨a1, ex0, rfl, wa1⟩ := DataW.trod_int Tryz.underlying2 hs0
  obtain ⟨a2, ey0, rfl, wa2⟩ := DataW.trod_int Tryz.underlying2 ht0
  obtain ⟨a3, ez0, rfl, wa3⟩ := DataW.trod_int Tryz.underlying2 hu0
  simp at ex0 ey0 ez0
  subst ex0 ey0 ez0
  obtain ⟨s, rfl, rfl, rfl, ws⟩ := open_int Tryz.underlying24 (hval 1 24 v1 rfl rfl) h1
  clear hA0 hval0
  simp only [List.append_nil] at hW'
  refine (numRounds_walk_row a1 a2 a3 s (bounds_i64 wa1) (bounds_i64 wa2) (bounds_i64 wa3) (numRounds_bounds16 ws) W).mono fun e W' ⟨he, hg⟩ => ?_
  subst he
  exact ⟨_, rfl, numRounds_flat hW' (fun _ _ _ => trodAll_cons_mk (shut_bool Tryz.underlying4 _) trodAll_mk0) (fun sp => trodAll_cons_mk (shut_agg3 (y0 := (.lit (.int .i64 a1), [])) (y1 := (.lit (.int .i64 a2), [])) (y2 := (.lit (.int .i64 a3), [])) Tryz.underlying23 (by kernel_rfl) numRounds_cells ⟨1, by simp [DataW.trod, Tryz.underlying2, wa1]⟩ ⟨1, by simp [DataW.trod, Tryz.underlying2, wa2]⟩ ⟨1, by simp [DataW.trod, Tryz.underlying2, wa3]⟩) (trodAll_cons_mk (shut_int Tryz.underlying24 ws) trodAll_mk0)) (fun _ => rfl) (fun may => hg.frame may) (ok_one (by kernel_rfl) rfl (okWide_bool_mk Tryz.underlying4 _))⟩

theorem numRounds_over : Rows.numRoundsRow.holds Tryz.pinned (OpenSpec.ofChange Rows.numRoundsSpec) :=
  OpenClaim.holds_of_wide 3 Tryz.f3 rfl rfl rfl rfl rfl rfl rfl ⟨rfl, rfl, rfl, rfl, rfl⟩ rfl rfl rfl rfl rfl (by kernel_rfl) Tryz.func3 (by kernel_rfl)
    (of_decide_eq_true (by kernel_rfl)) (by unfold Func.isWrapper; first | (rw [if_pos (by decide +kernel)]; kernel_rfl) | (rw [if_neg (by decide +kernel)]; exact ⟨rfl, rfl⟩))
    (fun os started H enc _ => numRounds_lifted os started H enc)

/-- THE STATEMENT. -/
theorem numRounds_holds : Rows.NumRoundsSaid := numRounds_over
#print axioms numRounds_holds
end Go.Proofs.YtgpmlhpgdalheaaGreat
