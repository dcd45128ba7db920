/- The tie: the start-up code's run ends. -/
import Derived.Test.YtaafinlbepaboaaGreatDoorHTopRestart37
namespace Go.Proofs.YtaafinlbepaboaaGreatDoor
open Go
theorem t7 : ∀ os tape, varsDone Tryz.prog 100 (varsId Tryz.prog) os tape = true := fun _ _ => by kernel_rfl
end Go.Proofs.YtaafinlbepaboaaGreatDoor
