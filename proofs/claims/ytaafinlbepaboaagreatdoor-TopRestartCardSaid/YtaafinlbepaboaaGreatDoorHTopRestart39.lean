/- The tie: what the start-up code's run leaves reads as the listed data say. -/
import Derived.Test.YtaafinlbepaboaaGreatDoorHTopRestart37
namespace Go.Proofs.YtaafinlbepaboaaGreatDoor
open Go
def placesP : List MemPlace := [(0, 256), (1, 1), (17, 3), (16, 21), (3, 1), (15, 1), (4, 1), (14, 1), (5, 20), (6, 32), (7, 64)].flatMap fun (x : Nat × Nat) => (List.range x.2).map fun o => .cell x.1 o
def codeP : MemPlace → Nat
  | .cell b o => b * 65536 + o + 1
  | .map _ => 0
def nodupB : List Nat → Bool
  | [] => true
  | a :: r => r.all (fun b => !Nat.beq a b) && nodupB r
theorem nodup_of : ∀ {l : List Nat}, nodupB l = true → l.Nodup
  | [], _ => List.nodup_nil
  | a :: r, h => by
    simp only [nodupB, Bool.and_eq_true, List.all_eq_true, Bool.not_eq_true'] at h
    refine List.nodup_cons.2 ⟨fun hm => ?_, nodup_of h.2⟩
    have := h.1 a hm
    simp at this
theorem nodup_map {α β : Type} (f : α → β) : ∀ {l : List α}, (l.map f).Nodup → l.Nodup
  | [], _ => List.nodup_nil
  | a :: r, h => by
    rw [List.map_cons, List.nodup_cons] at h
    exact List.nodup_cons.2 ⟨fun hm => h.1 (List.mem_map_of_mem hm), nodup_map f h.2⟩
theorem nodupP : placesP.Nodup := by
  have h : (placesP.map codeP).Nodup := nodup_of (by kernel_rfl)
  exact nodup_map _ h
theorem t8 : ∀ os tape, DataW.laidRun Tryz.prog (varsWorld Tryz.prog 100 (varsId Tryz.prog) os tape).memory 8 (laidL.map (·.1)) = some (laidL, placesP) := fun _ _ => by kernel_rfl
end Go.Proofs.YtaafinlbepaboaaGreatDoor
