/- The tie: what the start-up code's run leaves reads as the listed data say. -/
import Derived.Test.YtaafinlbepaboaaGreatDoorHTopRestart39
namespace Go.Proofs.YtaafinlbepaboaaGreatDoor
open Go
theorem t9 : ∀ os tape, laidRowsB Tryz.prog (varsWorld Tryz.prog 100 (varsId Tryz.prog) os tape).memory placesP = true := fun _ _ => by kernel_rfl
end Go.Proofs.YtaafinlbepaboaaGreatDoor
