/- The facts of the row, each on its own. -/
import Derived.Test.YtaafinlbepaboaaGreatDoorRows
import Derived.KernelRfl
import Derived.JoinedOf
namespace Go.Proofs.YtaafinlbepaboaaGreatDoor.topRestart
open Go
theorem c1 : mapsRowed Tryz.prog = true := by kernel_rfl
theorem c2 : (Rows.topRestartRow.inPlace == Tryz.prog.inPlace 4) = true := by kernel_rfl
theorem c3 : (Rows.topRestartRow.unfollowed == Tryz.prog.unfollowed 4) = true := by kernel_rfl
theorem c4 : (Rows.topRestartRow.recurses == Tryz.prog.recurses 4) = true := by kernel_rfl
theorem c5 : (Rows.topRestartRow.named == Tryz.prog.varsNamed 4) = true := by kernel_rfl
end Go.Proofs.YtaafinlbepaboaaGreatDoor.topRestart
