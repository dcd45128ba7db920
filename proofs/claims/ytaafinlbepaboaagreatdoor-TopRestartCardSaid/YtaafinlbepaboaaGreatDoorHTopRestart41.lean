/- The tie, out of its nine facts. -/
import Derived.Test.YtaafinlbepaboaaGreatDoorHTopRestart38
import Derived.Test.YtaafinlbepaboaaGreatDoorHTopRestart40
namespace Go.Proofs.YtaafinlbepaboaaGreatDoor
open Go
theorem tie' : Tryz.prog.laidByTextLater laidL laidK true :=
  Program.laidByTextLater_by_run 100 8 t1 t2 t3 t4 t5 t6 t7 (fun os tape => by rw [t8]; rfl) (fun os tape => by
    rw [t8, Option.map_some]
    simp only [t9, decide_eq_true nodupP, Bool.and_true]) (by kernel_rfl)
theorem topHalf_row_tie' : Rows.topHalfRow.laidByTextAt .later Tryz.pinned laidK true :=
  OpenClaim.laidByTextAt_later rfl rfl tie' noOwnUnsafe'
end Go.Proofs.YtaafinlbepaboaaGreatDoor
