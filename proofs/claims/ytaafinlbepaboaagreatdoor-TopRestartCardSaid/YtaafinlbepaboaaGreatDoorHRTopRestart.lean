/- A restarted controller is as a new one with the retained cells it had, and none of the fault's scan. Conditions: none beyond the card's. -/
import Derived.Test.YtaafinlbepaboaaGreatDoorCards
import Derived.Test.YtaafinlbepaboaaGreatDoorHTopRestart43
import Derived.Test.YtaafinlbepaboaaGreatDoorHTopRestart36
import Derived.Test.YtaafinlbepaboaaGreatDoorHTopRestart41
set_option linter.unusedVariables false
namespace Go.Proofs.YtaafinlbepaboaaGreatDoor.topRestart
open Go
theorem d1 : Rows.topRestartRow.wfByText (OpenSpec.ofChange Rows.topRestartSpec) = true := by kernel_rfl
theorem d3 : Tryz.prog.funcNamed "rung/rungtop.TopRestart" = some 4 := by kernel_rfl
theorem d5 : (Tryz.f4.params.toList.all fun t => Tryz.prog.wantsStandIn t == false) = true := by kernel_rfl
theorem d6 : Rows.topRestartRow.goesBy Tryz.prog = false := by
  unfold OpenClaim.goesBy Program.goesAt Program.goesFrom
  rw [show Rows.topRestartRow.func = "rung/rungtop.TopRestart" from rfl, d3, Option.any_some, hall']
  rfl
theorem tied : Rows.topRestartRow.laidByTextAt .later Tryz.pinned laidK true :=
  OpenClaim.laidByTextAt_later rfl rfl tie' noOwnUnsafe'
theorem proved : Rows.TopRestartCardSaid :=
  Claim7.holds_tied_plain_at .later [] laidK true (true, "78d83abfbc6fc6f6aae5c5cdd69acf07ca051c214993daff8f1bde5dcd01c483") true
    said (fun _ h => by cases h) d1 (fun _ h => by cases h) tied rfl ⟨rfl, rfl⟩ mainIs' rfl
    (fun f fn hf hfn => by
      obtain rfl : f = 4 := Option.some.inj (d3.symm.trans hf) |>.symm
      obtain rfl : fn = Tryz.f4 := (Option.some.inj (Tryz.func4.symm.trans hfn)).symm
      refine ⟨looks'.symm, fun j t ht => ?_⟩
      have hm : t ∈ Tryz.f4.params.toList := by
        rw [← Array.getElem?_toList] at ht
        exact List.mem_of_getElem? ht
      have := List.all_eq_true.1 d5 t hm
      exact eq_of_beq this)
    d6.symm
#print axioms proved
end Go.Proofs.YtaafinlbepaboaaGreatDoor.topRestart
