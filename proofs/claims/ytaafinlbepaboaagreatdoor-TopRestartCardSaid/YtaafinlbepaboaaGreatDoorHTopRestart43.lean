/- A restarted controller is as a new one with the retained cells it had, and none of the fault's scan. Conditions: none beyond the row's. -/
import Derived.Handy
import Derived.SevenTiedAt
import Derived.Test.YtaafinlbepaboaaGreatDoorHTopRestart42
import Derived.Test.YtaafinlbepaboaaGreatDoorHTopRestart34
import Derived.Test.YtaafinlbepaboaaGreatDoorHTopRestart35
set_option linter.unusedVariables false
namespace Go.Proofs.YtaafinlbepaboaaGreatDoor.topRestart
open Go Go.ChangeShapes Go.WideShapes Go.ChangeAt Go.RowKit Go.Ab
theorem own : ownKnob Tryz.prog.godebug = none := by kernel_rfl
theorem laidOut : laidOutB Tryz.prog = true := by kernel_rfl
theorem w1 (os : Os) : ((World.laidAll Tryz.prog os Rows.topRestartRow.laid).forCall (fun _ _ => 0) ⟨#[], #[.int .i64 0, .int .i64 0, .int .i64 0], []⟩).variablesZipB Tryz.prog = true := by kernel_rfl
theorem w2 (os : Os) : ((((World.laidAll Tryz.prog os Rows.topRestartRow.laid).forCall (fun _ _ => 0) ⟨#[], #[.int .i64 0, .int .i64 0, .int .i64 0], []⟩).heap.toList.drop Tryz.prog.globals.size).take ((begin Tryz.prog (fun _ _ => 0) default).world.heap.size - Tryz.prog.globals.size)) =
      (begin Tryz.prog (fun _ _ => 0) default).world.heap.toList.drop Tryz.prog.globals.size := by kernel_rfl
theorem w3 (os : Os) : Input.okWideB Tryz.checked.prog ((World.laidAll Tryz.prog os Rows.topRestartRow.laid).forCall (fun _ _ => 0) ⟨#[], #[.int .i64 0, .int .i64 0, .int .i64 0], []⟩) 4 ⟨#[], #[.int .i64 0, .int .i64 0, .int .i64 0], []⟩ = true := by kernel_rfl
theorem w4 (os : Os) : (World.holding Tryz.prog os ⟨#[], #[], []⟩).layFits Tryz.prog Rows.topRestartRow.laid [] = true := by kernel_rfl
theorem w5 (os : Os) : (World.holding Tryz.prog os ⟨#[], #[], []⟩).layIfaces Tryz.prog Rows.topRestartRow.laid (World.laidAll Tryz.prog os Rows.topRestartRow.laid) = true := by kernel_rfl
theorem w6 (os : Os) : laidMetH Tryz.prog Rows.topRestartRow.laid ((World.laidAll Tryz.prog os Rows.topRestartRow.laid).forCall (fun _ _ => 0) ⟨#[], #[.int .i64 0, .int .i64 0, .int .i64 0], []⟩).memory := by
  unfold laidMetH
  rw [show (Rows.topRestartRow.laid.filter fun x => x.2.handleName?.isSome) = [] by kernel_rfl]
  exact laidMet_laidAll _ (w4 os) (w5 os)
set_option maxRecDepth 100000 in
theorem lifted (os : Os) (started : os.Started) (H : Type) (enc : TypeId × Value → H) :
    ReturnsInHanded {} Tryz.checked os 4 .any (fun w args => (Rows.topRestartSpec.pre enc Tryz.prog Tryz.f4 [] false w args ∧ laidMetH Tryz.prog Rows.topRestartRow.laid w) ∧ sizedMet enc Tryz.prog Tryz.f4 (OpenSpec.ofChange Rows.topRestartSpec) false w args)
      (Rows.topRestartSpec.post enc Tryz.prog Tryz.f4 false true false false) := by
  refine returnsInHanded_of_change_and (C := Tryz.checked) (X := fun w _ => laidMetH Tryz.prog Rows.topRestartRow.laid w) (fun _ _ _ hh h => h.of_heap hh) own started (by kernel_rfl) Tryz.func4
    (ChangeSpec.witness_shaped (enc := enc) (C := Tryz.checked) (os := os) (X := fun w _ => laidMetH Tryz.prog Rows.topRestartRow.laid w) false (World.laidAll Tryz.prog os Rows.topRestartRow.laid) #[.int .i64 0, .int .i64 0, .int .i64 0] 8 (World.laidAll_os _ _ _)
      (World.shaped_of_ZipB (w1 os) (w2 os)) (w3 os) (by kernel_rfl) (by kernel_rfl) (w6 os)) ?_
  intro W base args ds gs before hval0 hW _ _ hL _
  have hG : GlobOk W noM := glob_of (by kernel_rfl) hL (by kernel_rfl)
  have hval : ∀ (j : Nat) t v, Tryz.f4.params[j]? = some t → args[j]? = some v → Value.okWide Tryz.prog W .any base t v := hval0
  have hW' := hW
  obtain ⟨p, q, hA0, hV, rfl, hfz, hnd⟩ := hW
  have hA : DataW.TrodAll enc Tryz.prog W 0 (fun _ => true) true Tryz.f4.params.toList args.toList ds p := hA0
  rw [Tryz.params4] at hA hval
  obtain ⟨v0, vs0, d0, ds0, p0, q0, hargs, rfl, rfl, h0, r0⟩ := trodAll_cons hA
  obtain ⟨v1, vs1, d1, ds1, p1, q1, rfl, rfl, rfl, h1, r1⟩ := trodAll_cons r0
  obtain ⟨v2, vs2, d2, ds2, p2, q2, rfl, rfl, rfl, h2, r2⟩ := trodAll_cons r1
  obtain ⟨rfl, rfl, rfl⟩ := trodAll_nil r2
  obtain rfl : args = #[v0, v1, v2] := by cases args; simp_all
  obtain ⟨rfl, rfl⟩ := trodVars_none hV
  obtain ⟨a0, rfl, rfl, rfl, w0⟩ := open_int Tryz.underlying3 (hval 0 3 v0 rfl rfl) h0
  have s0 := wf_has w0
  have g0 : GRel W noM (.int .i64 a0) (.int .i64 a0) := .int _ _
  obtain ⟨a1, rfl, rfl, rfl, w1⟩ := open_int Tryz.underlying3 (hval 1 3 v1 rfl rfl) h1
  have s1 := wf_has w1
  have g1 : GRel W noM (.int .i64 a1) (.int .i64 a1) := .int _ _
  obtain ⟨a2, rfl, rfl, rfl, w2⟩ := open_int Tryz.underlying3 (hval 2 3 v2 rfl rfl) h2
  have s2 := wf_has w2
  have g2 : GRel W noM (.int .i64 a2) (.int .i64 a2) := .int _ _
  clear hA0 hval0
  refine (Ev.calls (W := W) hG (law4 a0 a1 a2) rfl fun j hj => ?_).mono fun e W' ⟨he, bel⟩ => ?_
  · match j, hj with
    | 0, _ => exact g0
    | 1, _ => exact g1
    | 2, _ => exact g2
    | j + 3, hj => exact absurd hj (by simp)
  subst he
  exact ⟨_, rfl, _, _, _, [], _, [], hW', trodAll_mk1 (shut_bool Tryz.underlying4 _), (trodAll_cons_mk (shut_int Tryz.underlying3 w0) (trodAll_cons_mk (shut_int Tryz.underlying3 w1) (trodAll_cons_mk (shut_int Tryz.underlying3 w2) trodAll_mk0))), rfl, bel.frame _, fun h => by cases h⟩
theorem closed : joinedFacts Tryz.prog 4 Tryz.f4 Rows.topRestartSpec Rows.topRestartRow = true := by
  unfold joinedFacts
  rw [laidOut, c1, c2, c3, c4, c5]
  kernel_rfl
theorem over : Rows.topRestartRow.holds Tryz.pinned (OpenSpec.ofChange Rows.topRestartSpec) :=
  OpenClaim.holds_of_wide 4 Tryz.f4 rfl rfl rfl rfl rfl rfl rfl ⟨rfl, rfl, rfl, rfl, rfl⟩ rfl rfl rfl rfl rfl (by kernel_rfl) Tryz.func4 closed
    (of_decide_eq_true (by kernel_rfl)) (by unfold Func.isWrapper; first | (rw [if_pos (by decide +kernel)]; kernel_rfl) | (rw [if_neg (by decide +kernel)]; exact ⟨rfl, rfl⟩))
    (fun os started H enc _ => lifted os started H enc)
theorem said : Rows.TopRestartSaid := over
end Go.Proofs.YtaafinlbepaboaaGreatDoor.topRestart
